/-
The third engine, part 19: slices of slices, lengths, texts, functions as values. Conditions: each lemma's own.
-/
import Derived.Test.YtehljpghmbobfaaGreatDoorM2
import Derived.ArgAppend
import Derived.Lib.Bytealg
import Derived.Lib.Walk
import Derived.Lib.Strings
import Derived.WalkKit
import Derived.Laws.Strings3
import Derived.BigCall
import Derived.Test.YtehljpghmbobfaaGreatDoorProg
namespace Go.Proofs.YtehljpghmbobfaaGreatDoor
set_option linter.unusedVariables false
set_option linter.unusedSimpArgs false
open Go.RowKit
section
variable {P : Program} {n : Nat} {ty : TypeId} {sl : List (Nat × SV)} {bl bl' : List BV} {v : SV} {f : Nat} {g : Gh} {ρ : Env} {own : Own} {fr : Sl}
def bndH (sl : List (Nat × SV)) : Option Operand → Option (Option Int)
  | none => some none
  | some x => match evH sl x with | some (.v (.c (.int _ z))) => some (some z) | _ => none
def loN : Option Int → Nat | none => 0 | some z => z.toNat
def hiN (len : Nat) : Option Int → Nat | none => len | some z => z.toNat
def bndOk (len : Nat) : Option Int → Option Int → Bool
  | none, none => true
  | some l, none => decide (0 ≤ l ∧ l ≤ (len : Int))
  | none, some h => decide (0 ≤ h ∧ h ≤ (len : Int))
  | some l, some h => decide (0 ≤ l ∧ l ≤ h ∧ h ≤ (len : Int))
def cutL {α : Type} (xs : List α) : Option Int → Option Int → List α
  | none, none => xs
  | some l, none => xs.drop l.toNat
  | none, some h => xs.take h.toNat
  | some l, some h => (xs.drop l.toNat).take (h.toNat - l.toNat)
theorem cutL_eq {α : Type} (xs : List α) (lo hi : Option Int) : cutL xs lo hi = (xs.drop (loN lo)).take (hiN xs.length hi - loN lo) := by
  cases lo <;> cases hi <;> simp [cutL, loN, hiN]
  exact (List.take_of_length_le (by simp)).symm
theorem bndOk_of {len : Nat} {lo hi : Option Int} (h : bndOk len lo hi = true) : loN lo ≤ hiN len hi ∧ hiN len hi ≤ len ∧ (∀ z, lo = some z → z = ((z.toNat : Nat) : Int)) ∧ ∀ z, hi = some z → z = ((z.toNat : Nat) : Int) := by
  cases lo <;> cases hi <;> simp only [bndOk, decide_eq_true_eq] at h <;> simp only [loN, hiN]
  · exact ⟨Nat.zero_le _, Nat.le_refl _, (fun z e => by cases e), fun z e => by cases e⟩
  · exact ⟨Nat.zero_le _, by omega, (fun z e => by cases e), fun z e => by injection e with e; omega⟩
  · exact ⟨by omega, Nat.le_refl _, (fun z e => by injection e with e; omega), fun z e => by cases e⟩
  · exact ⟨by omega, by omega, (fun z e => by injection e with e; omega), fun z e => by injection e with e; omega⟩
theorem bnd_lo (hr : Rl g ρ ⟨sl, bl⟩ own fr) {lo : Option Operand} {z : Option Int} (h : bndH sl lo = some z) (hz : ∀ y, z = some y → y = ((y.toNat : Nat) : Int)) : (lo = none ∧ z = none) ∨ ∃ k y u, lo = some y ∧ z = some u ∧ evS fr y = some (.int k ((u.toNat : Nat) : Int)) := by
  cases lo with
  | none => injection h with h; exact .inl ⟨rfl, h.symm⟩
  | some y =>
    simp only [bndH] at h
    split at h
    · rename_i k u hu
      injection h with h; subst h
      obtain ⟨v, h1, rfl, _⟩ := evH_real hr hu
      exact .inr ⟨k, y, u, rfl, rfl, by rw [← hz u rfl]; exact h1⟩
    · cases h
def tSlice (P : Program) (sl : List (Nat × SV)) (t : TypeId) (x : Operand) (lo hi : Option Operand) : Tr := match P.underlying t, evH sl x, bndH sl lo, bndH sl hi with
  | some (.slice e), some (.v (.c (.ro c xs m))), some l, some h => (match cellsOfT P e with
    | some z => cond (Nat.beq z c.n) (.grd (bndOk xs.length l h) (retT (vC (.ro c (cutL xs l h) m)))) .no
    | none => .no)
  | some (.slice e), some (.v (.c (.own b))), some l, some h => (match cellsOfT P e with
    | some z => .need b fun
      | .row c _ xs => cond (Nat.beq z c.n) (.grd (bndOk xs.length l h) (retT (vC (.vw b c (loN l) (hiN xs.length h))))) .no
      | .fz c xs => cond (Nat.beq z c.n) (.grd (bndOk xs.length l h) (retT (vC (.vw b c (loN l) (hiN xs.length h))))) .no
      | _ => .no
    | none => .no)
  | some (.slice e), some (.v (.c (.k (.slice none 0 0)))), some l, some h => (match cellsOfT P e with
    | some _ => .grd (bndOk 0 l h) (retT (vC (.k (.slice none 0 0))))
    | none => .no)
  | some .string, some (.v (.c (.str xs))), some l, some h => .grd (bndOk xs.length l h) (retT (vC (.str (cutL xs l h))))
  | _, _, _, _ => .no
theorem y_sliceH {t e : TypeId} {x : Operand} {lo hi : Option Operand} {sz len c : Nat} {l h : Option Int} {A : Option Addr} {p : Psi} (hr : Rl g ρ ⟨sl, bl⟩ own fr) (hx : evS fr x = some (.slice A len c)) (ht : P.underlying t = some (.slice e)) (hs : cellsOfT P e = some sz)
    (hlo : bndH sl lo = some l) (hhi : bndH sl hi = some h) (hb : bndOk len l h = true) (hc : len ≤ c) : Yld P n p own fr (.slice t x lo hi none) ty (.slice (offA A c (loN l) sz) (hiN len h - loN l) (c - loN l)) := by
  obtain ⟨h1, h2, h3, h4⟩ := bndOk_of hb
  refine y_slice (loN l) (hiN len h) (hiN len h - loN l) hx ht hs ?_ ?_ h1 (Nat.le_trans h2 hc) rfl
  · rcases bnd_lo hr hlo h3 with ⟨rfl, rfl⟩ | ⟨k, y, u, rfl, rfl, h5⟩
    · exact .inl ⟨rfl, rfl⟩
    · exact .inr ⟨k, y, rfl, h5⟩
  · rcases bnd_lo hr hhi h4 with ⟨rfl, rfl⟩ | ⟨k, y, u, rfl, rfl, h5⟩
    · exact .inl ⟨rfl, rfl⟩
    · exact .inr ⟨k, y, rfl, h5⟩
theorem cutL_len {α : Type} {xs : List α} {l h : Option Int} (hb : bndOk xs.length l h = true) : (cutL xs l h).length = hiN xs.length h - loN l := by
  obtain ⟨h1, h2, _⟩ := bndOk_of hb
  rw [cutL_eq, List.length_take, List.length_drop]; omega
theorem run_sliceStr {w : World} {t : TypeId} {s : List UInt8} {lo hi : Option Value} {l h : Nat} (ht : P.underlying t = some .string)
    (hlo : (lo = none ∧ l = 0) ∨ ∃ k, lo = some (.int k (l : Int))) (hhi : (hi = none ∧ h = s.length) ∨ ∃ k, hi = some (.int k (h : Int))) (h1 : l ≤ h) (h2 : h ≤ s.length) :
    (Instr.sliceAt t (.string (mkS s)) lo hi none).run P w = .ok (.string (mkS ((s.drop l).take (h - l)))) w := by
  have hsz : (mkS s).size = s.length := mkS_size s
  have hb : (Instr.sliceBounds false (mkS s).size (mkS s).size lo hi none).run P w = .ok (l, h, s.length) w := by
    rw [hsz]
    have e1 : (0 : Int) ≤ (l : Int) ∧ (l : Int) ≤ (h : Int) := ⟨by omega, by omega⟩
    have e2 : (0 : Int) ≤ (h : Int) ∧ (h : Int) ≤ (s.length : Int) := ⟨by omega, by omega⟩
    rcases hlo with ⟨rfl, rfl⟩ | ⟨k, rfl⟩ <;> rcases hhi with ⟨rfl, rfl⟩ | ⟨k2, rfl⟩ <;> simp [Instr.sliceBounds, Instr.sliceBound, asIntOf, e1, e2, h1, h2]
  have hex : (mkS s).extract l h = mkS ((s.drop l).take (h - l)) := by
    apply ByteArray.ext
    rw [ByteArray.data_extract]
    show s.toArray.extract l h = ((s.drop l).take (h - l)).toArray
    rw [List.extract_toArray, List.extract_eq_take_drop]
  simp [Instr.sliceAt, Instr.slice, run_underlying ht, hb, hex]
theorem tSlice_ok {t : TypeId} {x : Operand} {lo hi : Option Operand} (h : Told f (tSlice P sl t x lo hi) bl bl' v) : EffH P n (.slice t x lo hi none) ty sl bl bl' v := by
  unfold tSlice at h
  split at h
  · rename_i e c xs m l r hu ex hlo hhi
    split at h
    · rename_i z hz
      obtain ⟨hc, hg, h⟩ := condT h
      obtain ⟨rfl, rfl⟩ := told_ret h
      have hc := Nat.eq_of_beq_eq_true hc
      subst hc
      refine .of_yld fun g ρ own fr hr => ?_
      obtain ⟨vx, hx1, A, cap, rfl, ha⟩ := evH_real hr ex
      have hcap : xs.length ≤ cap := by cases m <;> exact ha.cap
      refine ⟨_, ⟨_, _, rfl, ?_⟩, by rw [cutL_len hg]; exact y_sliceH hr hx1 hu hz hlo hhi hg hcap⟩
      obtain ⟨h1, h2, _⟩ := bndOk_of hg
      rw [cutL_eq]
      cases m with
      | true => have := Arr.cut ha (loN l) (hiN xs.length r) h1 h2; rwa [c.ty_n] at this
      | false => have := ArrM.cut ha (loN l) (hiN xs.length r) h1 h2; rwa [c.ty_n] at this
    · exact h.elim
  · rename_i e b l r hu ex hlo hhi
    split at h
    · rename_i z hz
      obtain ⟨bv, hb, h⟩ := h
      have key : ∀ (c : Cd) (xs : List c.den), (∃ bv, bl[b]? = some bv ∧ bv.len = some xs.length ∧ ((∃ et, bv = .row c et xs) ∨ bv = .fz c xs)) → Told f (cond (Nat.beq z c.n) (.grd (bndOk xs.length l r) (retT (vC (.vw b c (loN l) (hiN xs.length r))))) .no) bl bl' v → EffH P n (.slice t x lo hi none) ty sl bl bl' v := by
        rintro c xs ⟨bv, hb, hlen, hcase⟩ h
        obtain ⟨hc, hg, h⟩ := condT h
        obtain ⟨rfl, rfl⟩ := told_ret h
        have hc := Nat.eq_of_beq_eq_true hc
        subst hc
        obtain ⟨h1, h2, _⟩ := bndOk_of hg
        refine .of_yld fun g ρ own fr hr => ?_
        obtain ⟨vx, hx1, hkn, q, rfl, hl⟩ := evH_real hr ex
        have hl := hl _ _ hb hlen
        subst hl
        have hcap : xs.length ≤ (ρ b).2 := by
          obtain ⟨k0, hk, hB⟩ := hr.own_at hb
          rcases hcase with ⟨et, rfl⟩ | rfl
          · obtain ⟨A, c', e1, e2⟩ := Buf.val (hB : Buf g.b c.ty et (.slice (ρ b).1 xs.length (ρ b).2) k0 xs)
            injection e1 with _ _ e3
            rw [e3]; exact e2
          · exact hB.2.cap
        refine ⟨_, ⟨hkn, rfl, fun bv' m' e1 e2 => ?_⟩, y_sliceH hr hx1 hu hz hlo hhi hg hcap⟩
        rw [hb] at e1; injection e1 with e1; subst e1
        rw [hlen] at e2; injection e2 with e2
        omega
      dsimp only at h
      split at h
      · exact key _ _ ⟨_, hb, rfl, .inl ⟨_, rfl⟩⟩ h
      · exact key _ _ ⟨_, hb, rfl, .inr rfl⟩ h
      · exact h.elim
    · exact h.elim
  · rename_i e l r hu ex hlo hhi
    split at h
    case h_2 => exact h.elim
    rename_i m hm
    obtain ⟨hg, h⟩ := h
    obtain ⟨rfl, rfl⟩ := told_ret h
    obtain ⟨h1, h2, h3, h4⟩ := bndOk_of hg
    refine .of_yld fun g ρ own fr hr => ?_
    obtain ⟨vx, hx1, rfl, _⟩ := evH_real hr ex
    have hl0 : loN l = 0 := by omega
    have hh0 : hiN 0 r = 0 := by omega
    refine ⟨.slice none 0 0, ⟨rfl, rfl⟩, fun o a w e1 e2 hf hr' => ?_⟩
    have hlo' : (lo.map a.eval = none ∧ (0 : Nat) = 0) ∨ ∃ k, lo.map a.eval = some (.int k ((0 : Nat) : Int)) := by
      rcases bnd_lo hr hlo h3 with ⟨rfl, rfl⟩ | ⟨k, y, u, rfl, rfl, h5⟩
      · exact .inl ⟨rfl, rfl⟩
      · have : u.toNat = 0 := hl0
        rw [this] at h5
        exact .inr ⟨k, by simp [hf.ev h5]⟩
    have hhi' : (hi.map a.eval = none ∧ (0 : Nat) = 0) ∨ ∃ k, hi.map a.eval = some (.int k ((0 : Nat) : Int)) := by
      rcases bnd_lo hr hhi h4 with ⟨rfl, rfl⟩ | ⟨k, y, u, rfl, rfl, h5⟩
      · exact .inl ⟨rfl, rfl⟩
      · have : u.toNat = 0 := hh0
        rw [this] at h5
        exact .inr ⟨k, by simp [hf.ev h5]⟩
    have hb : (Instr.sliceBounds true 0 0 (lo.map a.eval) (hi.map a.eval) none).run P w = .ok (0, 0, 0) w := by
      rcases hlo' with ⟨e3, _⟩ | ⟨k, e3⟩ <;> rcases hhi' with ⟨e4, _⟩ | ⟨k2, e4⟩ <;> rw [e3, e4] <;> simp [Instr.sliceBounds, Instr.sliceBound, asIntOf]
    have : (Instr.sliceAt t (.slice none 0 0) (lo.map a.eval) (hi.map a.eval) none).run P w = .ok (.slice none 0 0) w := by
      simp [Instr.sliceAt, Instr.slice, run_underlying hu, hb, run_sizeOf_of hm]
    simp [execOp, e1, hf.ev hx1, this]
  · rename_i xs l r hu ex hlo hhi
    obtain ⟨hg, h⟩ := h
    obtain ⟨rfl, rfl⟩ := told_ret h
    obtain ⟨h1, h2, h3, h4⟩ := bndOk_of hg
    refine .of_yld fun g ρ own fr hr => ?_
    obtain ⟨vx, hx1, rfl, hx2⟩ := evH_real hr ex
    refine ⟨.string (mkS (cutL xs l r)), ⟨rfl, by rw [cutL_len hg]; omega⟩, fun o a w e1 e2 hf hr' => ?_⟩
    have := run_sliceStr (P := P) (w := w) (lo := lo.map a.eval) (hi := hi.map a.eval) (l := loN l) (h := hiN xs.length r) hu
      (by rcases bnd_lo hr hlo h3 with ⟨rfl, rfl⟩ | ⟨k, y, u, rfl, rfl, h5⟩
          · exact .inl ⟨rfl, rfl⟩
          · exact .inr ⟨k, by simp [hf.ev h5, loN]⟩)
      (by rcases bnd_lo hr hhi h4 with ⟨rfl, rfl⟩ | ⟨k, y, u, rfl, rfl, h5⟩
          · exact .inl ⟨rfl, rfl⟩
          · exact .inr ⟨k, by simp [hf.ev h5, hiN]⟩) h1 h2
    rw [cutL_eq]
    simp [execOp, e1, hf.ev hx1, this]
  · exact h.elim
def tLen (P : Program) (sl : List (Nat × SV)) (t : TypeId) (x : Operand) : Tr := match P.underlying t, evH sl x with
  | some (.slice _), some (.v (.c (.own b))) => .need b fun
    | .row _ _ xs => retT (vC (.int .i64 (xs.length : Int)))
    | .fz _ xs => retT (vC (.int .i64 (xs.length : Int)))
    | _ => .no
  | some (.slice _), some (.v (.c (.ro _ xs _))) => retT (vC (.int .i64 (xs.length : Int)))
  | some (.slice _), some (.v (.c (.vw b _ l h))) => .need b fun
    | .row _ _ _ => retT (vC (.int .i64 ((h - l : Nat) : Int)))
    | .fz _ _ => retT (vC (.int .i64 ((h - l : Nat) : Int)))
    | _ => .no
  | some (.slice _), some (.v (.c (.k (.slice none 0 0)))) => retT (vC (.int .i64 0))
  | some .string, some (.v (.c (.str xs))) => retT (vC (.int .i64 (xs.length : Int)))
  | some (.array n _), some (.v (.agg _)) => cond (Nat.ble n 1000000) (retT (vC (.int .i64 (n : Int)))) .no
  | _, _ => .no
def tCap (P : Program) (sl : List (Nat × SV)) (t : TypeId) (x : Operand) : Tr := match P.underlying t, evH sl x with
  | some (.slice _), some (.v (.c (.k (.slice none 0 0)))) => retT (vC (.int .i64 0))
  | _, _ => .no
theorem tCap_ok {t : TypeId} {x : Operand} (h : Told f (tCap P sl t x) bl bl' v) : EffH P n (.call { callee := .builtin .cap, args := #[x], argTypes := #[t] }) ty sl bl bl' v := by
  unfold tCap at h
  split at h
  · rename_i e hu ex
    obtain ⟨rfl, rfl⟩ := told_ret h
    refine .of_yld fun g ρ own fr hr => ?_
    obtain ⟨vx, hx1, rfl, _⟩ := evH_real hr ex
    refine ⟨_, ⟨rfl, inK_zero _⟩, fun o a w h1 h2 hf hr => ?_⟩
    simp [execOp, h1, resolve, invoke, builtin, hf.ev hx1, Builtin.cap_, run_underlying hu, goInt]
  · exact h.elim
theorem inK_len {m : Nat} (h : m ≤ 140737488355328) : inK .i64 (m : Int) := by
  simp [inK, IntKind.min, IntKind.max, IntKind.signed, IntKind.bits]; omega
theorem y_lenH {t : TypeId} {x : Operand} {u : Value} {m : Nat} {p : Psi} (hx : evS fr x = some u) (h : ∀ w, (Builtin.len_ #[t] ty #[u]).run P w = .ok (.int .i64 (m : Int)) w) : Yld P n p own fr (.call { callee := .builtin .len, args := #[x], argTypes := #[t] }) ty (.int .i64 (m : Int)) := by
  intro o a w e1 e2 hf hr
  subst e2
  simp [execOp, e1, resolve, invoke, builtin, hf.ev hx, h]
theorem tLen_ok {t : TypeId} {x : Operand} (h : Told f (tLen P sl t x) bl bl' v) : EffH P n (.call { callee := .builtin .len, args := #[x], argTypes := #[t] }) ty sl bl bl' v := by
  unfold tLen at h
  split at h
  · rename_i e b hu ex
    obtain ⟨bv, hb, h⟩ := h
    have key : ∀ (m : Nat), bv.len = some m → Told f (retT (vC (.int .i64 (m : Int)))) bl bl' v → EffH P n (.call { callee := .builtin .len, args := #[x], argTypes := #[t] }) ty sl bl bl' v := by
      intro m hm h
      obtain ⟨rfl, rfl⟩ := told_ret h
      refine .of_yld fun g ρ own fr hr => ?_
      obtain ⟨vx, hx1, hkn, q, rfl, hl⟩ := evH_real hr ex
      have hl := hl _ _ hb hm
      subst hl
      have hle : q ≤ 140737488355328 := by
        obtain ⟨k0, hk, hB⟩ := hr.own_at hb
        cases bv <;> simp only [BV.len, Option.some.injEq, reduceCtorEq] at hm <;> subst hm
        · exact Buf.len hB
        · exact hB.2.len
      exact ⟨_, ⟨rfl, inK_len hle⟩, y_lenH hx1 fun w => by simp [Builtin.len_, run_underlying hu, goInt]⟩
    dsimp only at h
    split at h
    · exact key _ rfl h
    · exact key _ rfl h
    · exact h.elim
  · rename_i e c xs m hu ex
    obtain ⟨rfl, rfl⟩ := told_ret h
    refine .of_yld fun g ρ own fr hr => ?_
    obtain ⟨vx, hx1, A, cap, rfl, ha⟩ := evH_real hr ex
    have hle : xs.length ≤ 140737488355328 := by cases m <;> exact ha.len
    exact ⟨_, ⟨rfl, inK_len hle⟩, y_lenH hx1 fun w => by simp [Builtin.len_, run_underlying hu, goInt]⟩
  · rename_i e b c l r hu ex
    obtain ⟨bv, hb, h⟩ := h
    have key : ∀ (m : Nat), bv.len = some m → Told f (retT (vC (.int .i64 ((r - l : Nat) : Int)))) bl bl' v → EffH P n (.call { callee := .builtin .len, args := #[x], argTypes := #[t] }) ty sl bl bl' v := by
      intro m hm h
      obtain ⟨rfl, rfl⟩ := told_ret h
      refine .of_yld fun g ρ own fr hr => ?_
      obtain ⟨vx, hx1, hkn, rfl, hl⟩ := evH_real hr ex
      have hl := hl _ _ hb hm
      have hle : m ≤ 140737488355328 := by
        obtain ⟨k0, hk, hB⟩ := hr.own_at hb
        cases bv <;> simp only [BV.len, Option.some.injEq, reduceCtorEq] at hm <;> subst hm
        · exact Buf.len hB
        · exact hB.2.len
      exact ⟨_, ⟨rfl, inK_len (by omega)⟩, y_lenH hx1 fun w => by simp [Builtin.len_, run_underlying hu, goInt]⟩
    dsimp only at h
    split at h
    · exact key _ rfl h
    · exact key _ rfl h
    · exact h.elim
  · rename_i e hu ex
    obtain ⟨rfl, rfl⟩ := told_ret h
    refine .of_yld fun g ρ own fr hr => ?_
    obtain ⟨vx, hx1, rfl, _⟩ := evH_real hr ex
    exact ⟨_, ⟨rfl, inK_len (m := 0) (by decide)⟩, y_lenH hx1 fun w => by simp [Builtin.len_, run_underlying hu, goInt]⟩
  · rename_i xs hu ex
    obtain ⟨rfl, rfl⟩ := told_ret h
    refine .of_yld fun g ρ own fr hr => ?_
    obtain ⟨vx, hx1, rfl, hx2⟩ := evH_real hr ex
    exact ⟨_, ⟨rfl, inK_len hx2⟩, y_lenH hx1 fun w => by simp [Builtin.len_, run_underlying hu, goInt, mkS_size]⟩
  · rename_i m e l hu ex
    obtain ⟨hm, h⟩ := condT h
    have hm := Nat.le_of_ble_eq_true hm
    obtain ⟨rfl, rfl⟩ := told_ret h
    refine .of_yld fun g ρ own fr hr => ?_
    obtain ⟨vx, hx1, cs, rfl, _⟩ := evH_real hr ex
    exact ⟨_, ⟨rfl, inK_len (by omega)⟩, y_lenH hx1 fun w => by simp [Builtin.len_, run_underlying hu, goInt]⟩
  · exact h.elim
def tMM (b : Builtin) (sl : List (Nat × SV)) (x y : Operand) : Tr := asI sl x fun k a => asI sl y fun j c => match sameK j k, b with
  | some _, .max => retT (vC (.int k (maxI a c)))
  | some _, .min => retT (vC (.int k (minI a c)))
  | _, _ => .no
theorem tMM_ok {b : Builtin} {x y : Operand} {ats : Array TypeId} (h : Told f (tMM b sl x y) bl bl' v) : EffH P n (.call { callee := .builtin b, args := #[x, y], argTypes := ats }) ty sl bl bl' v := by
  obtain ⟨k, a, ex, h1⟩ := asI_told h
  obtain ⟨j, c, ey, h2⟩ := asI_told h1
  clear h h1
  split at h2
  · rename_i hk _; obtain ⟨hk⟩ := hk; subst hk
    obtain ⟨rfl, rfl⟩ := told_ret h2
    refine .of_yld fun g ρ own fr hr => ?_
    obtain ⟨vx, hx1, rfl, hx2⟩ := evH_real hr ex
    obtain ⟨vy, hy1, rfl, hy2⟩ := evH_real hr ey
    refine ⟨_, ⟨rfl, ?_⟩, fun o ac w e1 e2 hf hr => ?_⟩
    · unfold maxI; split
      · exact hy2
      · exact hx2
    · simp [execOp, e1, resolve, invoke, builtin, hf.ev hx1, hf.ev hy1, Builtin.max_, Builtin.max2, maxI]
  · rename_i hk _; obtain ⟨hk⟩ := hk; subst hk
    obtain ⟨rfl, rfl⟩ := told_ret h2
    refine .of_yld fun g ρ own fr hr => ?_
    obtain ⟨vx, hx1, rfl, hx2⟩ := evH_real hr ex
    obtain ⟨vy, hy1, rfl, hy2⟩ := evH_real hr ey
    refine ⟨_, ⟨rfl, ?_⟩, fun o ac w e1 e2 hf hr => ?_⟩
    · unfold minI; split
      · exact hy2
      · exact hx2
    · simp [execOp, e1, resolve, invoke, builtin, hf.ev hx1, hf.ev hy1, Builtin.min_, Builtin.min2, minI]
  · exact h2.elim
end
section
variable {P : Program} {n : Nat} {ty : TypeId} {sl : List (Nat × SV)} {bl bl' : List BV} {v : SV} {f : Nat} {g : Gh} {ρ : Env} {own : Own} {fr : Sl}
def tText (P : Program) (sl : List (Nat × SV)) (s d : TypeId) (x : Operand) : Tr := match P.underlying s, P.underlying d with
  | some (.slice e), some .string => (match P.underlying e, evH sl x with
    | some (.int .u8), some (.v (.c (.own b))) => .need b fun
      | .row .y _ xs => retT (vC (.str xs))
      | .fz .y xs => retT (vC (.str xs))
      | _ => .no
    | some (.int .u8), some (.v (.c (.ro .y xs _))) => retT (vC (.str xs))
    | some (.int .u8), some (.v (.c (.k (.slice none 0 0)))) => retT (vC (.str []))
    | _, _ => .no)
  | some (.slice e), some (.slice e2) => (match Nat.beq s d, P.underlying e2, evH sl x with
    | true, some (.int .u8), some (.v (.c (.own b))) => .need b fun
      | .row .y _ xs => .grd (decide (0 < List.length (α := UInt8) xs)) (.done ⟨vC (.own b), [(b, .fz .y xs)], []⟩)
      | _ => .no
    | _, _, _ => .no)
  | _, _ => tConv P sl s d x
theorem ghostOf {w : World} {p : Psi} {own : Own} (h : Rdw w p own) : (⟨fun b => w.heap[b]?, w.os, w.tape, w.output⟩ : Psi).In w := ⟨rfl, rfl, rfl, fun b o h => h⟩
theorem y_textA {s d e : TypeId} {x : Operand} {A : Option Addr} {cap : Nat} {xs : List UInt8} (hx : evS fr x = some (.slice A xs.length cap)) (h : ArrM g.r g.b tyU8 A cap xs) (hs : P.underlying s = some (.slice e)) (he : P.underlying e = some (.int .u8)) (hd : P.underlying d = some .string) :
    Yld P n g.r own fr (.convert s d x) ty (.string (mkS xs)) := y_str hx (h.toArr g.br) hs he hd
theorem y_textB {s d e : TypeId} {x : Operand} {A : Option Addr} {cap : Nat} {xs : List UInt8} {k : Option Bk} {i : Nat} {et : TypeId} (hx : evS fr x = some (.slice A xs.length cap)) (hi : own[i]? = some k) (h : Buf g.b tyU8 et (.slice A xs.length cap) k xs) (hs : P.underlying s = some (.slice e)) (he : P.underlying e = some (.int .u8)) (hd : P.underlying d = some .string) :
    Yld P n g.r own fr (.convert s d x) ty (.string (mkS xs)) := by
  intro o a w h1 h2 hf hr
  have hk : ∀ b, k = some b → w.heap[b.g]? = some b.obj := fun b hb => by subst hb; exact hr.has b (List.mem_of_getElem? hi)
  have hp := ghostOf hr
  have hA : Arr (⟨fun b => w.heap[b]?, w.os, w.tape, w.output⟩ : Psi) tyU8 A cap xs := by
    have hle : g.b.le (⟨fun b => w.heap[b]?, w.os, w.tape, w.output⟩ : Psi) := ⟨hr.r.os.trans g.br.os, hr.r.tape.trans g.br.tape, hr.r.out.trans g.br.out, fun b o e => hr.r.m b o (g.br.m b o e)⟩
    exact arr_of_buf (h.mono hle) (.refl _) fun b hb => hk b hb
  exact y_str (own := own) hx hA hs he hd o a w h1 h2 hf ⟨hp, hr.has⟩
theorem tText_ok {s d : TypeId} {x : Operand} (h : Told f (tText P sl s d x) bl bl' v) : EffH P n (.convert s d x) ty sl bl bl' v := by
  unfold tText at h
  split at h
  · rename_i e hs hd
    split at h
    · rename_i b he ex
      obtain ⟨bv, hb, h⟩ := h
      dsimp only at h
      split at h
      · rename_i et xs
        obtain ⟨rfl, rfl⟩ := told_ret h
        refine .of_yld fun g ρ own fr hr => ?_
        obtain ⟨vx, hx1, hkn, q, rfl, hl⟩ := evH_real hr ex
        have hl := hl _ _ hb rfl
        subst hl
        obtain ⟨k0, hk, hB⟩ := hr.own_at hb
        have hB : Buf g.b tyU8 et (.slice (ρ b).1 (List.length (α := UInt8) xs) (ρ b).2) k0 xs := hB
        exact ⟨_, ⟨rfl, hB.len⟩, y_textB hx1 hk hB hs he hd⟩
      · rename_i xs
        obtain ⟨rfl, rfl⟩ := told_ret h
        refine .of_yld fun g ρ own fr hr => ?_
        obtain ⟨vx, hx1, hkn, q, rfl, hl⟩ := evH_real hr ex
        have hl := hl _ _ hb rfl
        subst hl
        obtain ⟨k0, hk, _, hB⟩ := hr.own_at hb
        have hB : Arr g.b tyU8 (ρ b).1 (ρ b).2 xs := hB
        exact ⟨_, ⟨rfl, hB.len⟩, y_textA hx1 (Arr.toM hB g.br) hs he hd⟩
      · exact h.elim
    · rename_i xs m he ex
      obtain ⟨rfl, rfl⟩ := told_ret h
      refine .of_yld fun g ρ own fr hr => ?_
      obtain ⟨vx, hx1, A, cap, rfl, ha⟩ := evH_real hr ex
      cases m with
      | true =>
        have ha : Arr g.b tyU8 A cap xs := ha
        exact ⟨_, ⟨rfl, ha.len⟩, y_textA hx1 (Arr.toM ha g.br) hs he hd⟩
      | false =>
        have ha : ArrM g.r g.b tyU8 A cap xs := ha
        exact ⟨_, ⟨rfl, ha.len⟩, y_textA hx1 ha hs he hd⟩
    · rename_i he ex
      obtain ⟨rfl, rfl⟩ := told_ret h
      refine .of_yld fun g ρ own fr hr => ?_
      obtain ⟨vx, hx1, rfl, _⟩ := evH_real hr ex
      exact ⟨_, ⟨rfl, by simp⟩, y_textA (xs := []) hx1 ArrM.nil hs he hd⟩
    · exact h.elim
  · rename_i e e2 hs hd
    split at h
    · rename_i b hsd he ex
      obtain ⟨bv, hb, h⟩ := h
      dsimp only at h
      split at h
      · rename_i et xs
        obtain ⟨hg, h⟩ := h
        have h0 := of_decide_eq_true hg
        obtain ⟨rfl, rfl⟩ := h
        have hsd := Nat.eq_of_beq_eq_true hsd
        subst hsd
        intro o a w Q K g ρ own fr h1 h2 hr hfr hst hk
        obtain ⟨vx, hx1, hkn, q, rfl, hl⟩ := evH_real hr ex
        have hl := hl _ _ hb rfl
        subst hl
        obtain ⟨k0, hk0, hB⟩ := hr.own_at hb
        have hB : Buf g.b tyU8 et (.slice (ρ b).1 (List.length (α := UInt8) xs) (ρ b).2) k0 xs := hB
        have hc : cvC P fr (.convert s s x) = some ((ρ b).1, List.length (α := UInt8) xs, (ρ b).2) := by
          unfold cvC
          simp [hx1, hd, he]
          rfl
        refine eCv (P := P) b hB h0 hc hk0 o a w Q K h1 h2 hfr hst fun v g' own' w' hg' hs' ⟨e1, e2, e3⟩ => ?_
        subst e1; subst e2
        have hx : Ext ρ bl ρ (bl.set b (.fz .y xs)) := Ext.set_at hb rfl fun m hm => hm
        have hrl := hr.setB (g' := g') (bv1 := .fz .y xs) (k := none) hg' hb rfl (fun m hm => hm) ⟨rfl, e3⟩
        exact hk _ g' ρ _ w' hg' hx hs' hrl (RealC.ext hg' hx (x := .own b) ⟨hkn, _, rfl, fun bv m e1 e2 => by rw [hb] at e1; injection e1 with e1; subst e1; injection e2 with e2⟩)
      · exact h.elim
    · exact h.elim
  · exact tConv_ok h
def tIndex (P : Program) (sl : List (Nat × SV)) (t : TypeId) (x i : Operand) : Tr := asI sl i fun _ z => match P.underlying t, evH sl x with
  | some .string, some (.v (.c (.str xs))) => .grd (decide (0 ≤ z ∧ z < (xs.length : Int))) (retT (vC (.int .u8 ((xs.getD z.toNat 0).toNat : Int))))
  | some (.array len e), some (.v (.agg l)) => (match cellsOfT P e with
    | some m => splitZ z (fun i => readT P e l (i * m)) len 0
    | none => .no)
  | _, _ => .no
theorem tIndex_ok {t : TypeId} {x i : Operand} (h : Told f (tIndex P sl t x i) bl bl' v) : EffH P n (.index t x i) ty sl bl bl' v := by
  obtain ⟨k, z, ei, h⟩ := asI_told h
  split at h
  · rename_i xs hu ex
    obtain ⟨hg, h⟩ := h
    obtain ⟨rfl, rfl⟩ := told_ret h
    obtain ⟨hz, hlt⟩ := idx_of hg
    refine .of_yld fun g ρ own fr hr => ?_
    obtain ⟨vx, hx1, rfl, _⟩ := evH_real hr ex
    obtain ⟨vi', hi1, rfl, _⟩ := evH_real hr ei
    refine ⟨_, ⟨rfl, inK_u8 _⟩, fun o a w e1 e2 hf hr => ?_⟩
    have hge : (0 : Int) ≤ z := by omega
    have hb : (mkS xs)[z.toNat]? = some (xs.getD z.toNat 0) := by
      have h1 : z.toNat < (mkS xs).size := by rw [mkS_size]; exact hlt
      rw [getElem?_pos (mkS xs) z.toNat h1]
      congr 1
      rw [List.getD_eq_getElem?_getD, List.getElem?_eq_getElem hlt]
      rfl
    have : (Instr.index t (.string (mkS xs)) (.int k z)).run P w = .ok (.int .u8 ((xs.getD z.toNat 0).toNat : Int)) w := by
      simp only [Instr.index, asIntOf, run_underlying hu, Sem.run_bind, Sem.run_pure, Result.andThen_ok, if_pos hge, hb]
    simp [execOp, e1, hf.ev hx1, hf.ev hi1, this]
  · rename_i len e l hu ex
    split at h
    · rename_i m hm
      obtain ⟨j, hlt, ez, hj⟩ := splitZ_told h
      subst ez
      obtain ⟨rfl, e1⟩ := readT_told hj
      refine .of_yld fun g ρ own fr hr => ?_
      obtain ⟨vx, hx1, cs, rfl, hx2⟩ := evH_real hr ex
      obtain ⟨vi', hi1, rfl, _⟩ := evH_real hr ei
      obtain ⟨u, h1, h2⟩ := readL_part e1 hx2
      refine ⟨u, h1, fun o a w e1 e2 hf hr => ?_⟩
      have hr0 : (0 : Int) ≤ (j : Int) ∧ (j : Int) < (len : Int) := by omega
      have h2 : ∀ w, (part e cs.toArray ((j : Int).toNat * m)).run P w = .ok u w := h2
      have : (Instr.index t (.agg cs.toArray) (.int k (j : Int))).run P w = .ok u w := by
        simp only [Instr.index, asIntOf, run_underlying hu, Sem.run_bind, Sem.run_pure, Result.andThen_ok, if_pos hr0, run_sizeOf_of hm, h2]
      simp [execOp, e1, hf.ev hx1, hf.ev hi1, this]
    · exact h.elim
  · exact h.elim
def capH (sl : List (Nat × SV)) : CV → List Operand → Option CV
  | c, [] => some c
  | c, x :: l => match evH sl x with | some (.v (.c y)) => capH sl (.cap c y) l | _ => none
def tFn (sl : List (Nat × SV)) (fn : Fn) (first captured : List Operand) : Tr := match fn, first with
  | .func f, [] => (match capH sl (.fn f) captured with | some c => retT (vC c) | none => .no)
  | _, _ => .no
theorem capH_real (hr : Rl g ρ ⟨sl, bl⟩ own fr) {a : Act} (hf : Fr n a fr) : ∀ {l : List Operand} {c c' : CV} {f0 : Fn} {caps : List Value}, capH sl c l = some c' → RealC g ρ bl c (.func f0 #[] caps.toArray) → RealC g ρ bl c' (.func f0 #[] (caps ++ l.map a.eval).toArray)
  | [], c, c', f0, caps, h, hc => by injection h with h; subst h; simpa using hc
  | x :: l, c, c', f0, caps, h, hc => by
    unfold capH at h
    split at h
    · rename_i y hy
      obtain ⟨u, h1, h2⟩ := evH_real hr hy
      have := capH_real hr hf (f0 := f0) (caps := caps ++ [u]) h ⟨f0, caps.toArray, u, hc, h2, by simp⟩
      rw [List.map_cons, hf.ev h1]
      simpa using this
    · cases h
theorem tFn_ok {fn : Fn} {first captured : List Operand} (h : Told f (tFn sl fn first captured) bl bl' v) : EffH P n (.makeFunc fn first.toArray captured.toArray) ty sl bl bl' v := by
  unfold tFn at h
  split at h
  · rename_i f0
    split at h
    · rename_i c hc
      obtain ⟨rfl, rfl⟩ := told_ret h
      intro o a w Q K g ρ own fr h1 h2 hr hf hs hk
      have hv := capH_real hr hf (caps := []) (f0 := .func f0) hc rfl
      have hrun : (execOp a.eval o).run P w = .ok (.value (.func (.func f0) #[] (captured.map a.eval).toArray)) w := by
        simp [execOp, h1, Instr.makeFunc]
      unfold Oper.wp
      rw [hrun]
      simp only [Oper.upon]
      rw [List.nil_append] at hv
      exact hk _ g ρ own w (.refl g) .refl hs hr hv
    · exact h.elim
  · exact h.elim
def concT (P : Program) (t : TypeId) : Bool := match P.underlying t with
  | some (.interface _) => false
  | some _ => true
  | none => false
def tIfc (P : Program) (sl : List (Nat × SV)) (t : TypeId) (x : Operand) : Tr := match evH sl x, concT P t with
  | some (.v (.c c)), true => retT (vC (.ifc t c))
  | _, _ => .no
theorem tIfc_ok {t : TypeId} {x : Operand} (h : Told f (tIfc P sl t x) bl bl' v) : EffH P n (.makeInterface t x) ty sl bl bl' v := by
  unfold tIfc at h
  split at h
  · rename_i c ex hc
    obtain ⟨rfl, rfl⟩ := told_ret h
    refine .of_yld fun g ρ own fr hr => ?_
    obtain ⟨vx, hx1, hx2⟩ := evH_real hr ex
    refine ⟨.iface t vx, ⟨vx, hx2, rfl⟩, fun o ac w e1 e2 hf hr => ?_⟩
    have hm : (Instr.makeInterface t vx).run P w = .ok (.iface t vx) w := by
      unfold concT at hc
      cases hu : P.underlying t with
      | none => rw [hu] at hc; cases hc
      | some td =>
        rw [hu] at hc
        cases td <;> first | (cases hc; done) | simp [Instr.makeInterface, run_underlying hu]
    simp [execOp, e1, hf.ev hx1, hm]
  · exact h.elim
def sameT : Operand → Operand → Bool
  | .tmp a, .tmp b => Nat.beq a b
  | _, _ => false
theorem sameT_eq {x y : Operand} (h : sameT x y = true) : x = y := by
  cases x with
  | tmp a => cases y with
    | tmp b => rw [Nat.eq_of_beq_eq_true h]
    | _ => cases h
  | _ => cases h
def tMake (P : Program) (sl : List (Nat × SV)) (f : Nat) (t : TypeId) (x y : Operand) : Tr := match rowOf P t with
  | some (c, et, bytes) => asI sl x fun _ z => asI sl y fun _ z' => (match zeroOf P et with
    | some zs => (match constL zs.toList with
      | some l => .grd (sameT x y || decide (z = z')) (encC c l fun u r => .grd (decide (0 ≤ z ∧ z * bytes ≤ 140737488355328)) (.done ⟨vC (.own f), [], [.row c et (List.replicate z.toNat u)]⟩))
      | none => .no)
    | none => .no)
  | none => .no
theorem tMake_ok {t : TypeId} {x y : Operand} (hf : bl[f]? = some .hole) (h : Told f (tMake P sl f t x y) bl bl' v) : EffH P n (.makeSlice t x y) ty sl bl bl' v := by
  unfold tMake at h
  split at h
  · rename_i c et bytes hrow
    obtain ⟨hu, happ, _, hby⟩ := rowOf_ok hrow
    obtain ⟨k, z, ex, h0⟩ := asI_told h
    obtain ⟨k', z', ey, h1⟩ := asI_told h0
    clear h h0
    split at h1
    · rename_i zs hzs
      split at h1
      · rename_i l hl
        obtain ⟨hxy, h1⟩ := h1
        have hxy : z = z' := by
          cases hs : sameT x y with
          | true =>
            have := sameT_eq hs
            subst this
            rw [ex] at ey; injection ey with ey; injection ey with ey; injection ey with ey; injection ey
          | false => rw [hs, Bool.false_or] at hxy; exact of_decide_eq_true hxy
        subst hxy
        obtain ⟨u, r, bl1, h2, hfz, henc⟩ := encC_told c h1
        clear h1
        obtain ⟨hg, rfl, rfl⟩ := h2
        have hg := of_decide_eq_true hg
        refine EffH.frz hfz (effH_row (hfz.hole hf) fun g ρ own fr hr => ?_)
        obtain ⟨vx, hx1, rfl, _⟩ := evH_real hr ex
        obtain ⟨vy, hy1, rfl, _⟩ := evH_real hr ey
        have hz : z = ((z.toNat : Nat) : Int) := by omega
        have hall := constL_real (g := g) (ρ := ρ) (bl := bl1) hl
        obtain ⟨c1, c2, e1, e2, e3⟩ := henc.real hr c hall
        have hl1 : zs.toList.length = c.n := by
          have h1 := happ
          unfold appT at h1
          unfold zeroOf at hzs
          split at h1
          · rename_i e' i hu' hi
            split at h1
            · rename_i z0 hz0
              split at h1
              · rename_i hcnd
                simp only [Option.some.injEq, Prod.mk.injEq] at h1
                rw [hi] at hzs
                simp only [Option.bind_some, hz0, Option.map_some, Option.some.injEq] at hzs
                rw [← hzs, Array.length_toList, hcnd.2, h1.1, c.ty_n]
              · cases h1
            · cases h1
          · cases h1
        have hl2 : c1.length = c.n := by rw [c.ty.len e2, c.ty_n]
        have hc20 : c2 = [] := by
          have : zs.toList.length = c1.length + c2.length := by rw [e1, List.length_append]
          exact List.eq_nil_of_length_eq_zero (by omega)
        rw [hc20, List.append_nil] at e1
        have hbm : bytes * z.toNat ≤ 140737488355328 := by
          have : ((bytes * z.toNat : Nat) : Int) ≤ ((140737488355328 : Nat) : Int) := by
            rw [Int.natCast_mul, ← hz, Int.mul_comm]; exact hg.2
          exact Int.ofNat_le.1 this
        have hmz : z.toNat ≤ 140737488355328 := Nat.le_trans (Nat.le_mul_of_pos_left _ hby) hbm
        intro o a w Q K h1 h2 hfr hs hk
        refine e_make (T := c.ty) z.toNat (zs := c1) (z := u) happ (by rw [← hz]; exact hx1) (by rw [← hz]; exact hy1) (by rw [hzs, ← e1]) e2 (by omega) hmz o a w Q K h1 h2 hfr hs fun v' g' own' w' hg' hs' ⟨b, cs, e4, e5, e6, e7, e8⟩ => ?_
        exact hk v' g' own' w' hg' hs' ⟨_, _, _, by rw [e4, List.length_replicate], e5, e6, by rw [List.length_replicate]; exact e8⟩
      · exact h1.elim
    · exact h1.elim
  · exact h.elim
end
section
variable {α : Type} {P : Program} {n : Nat} {T : Ty α} {p : Psi} {g : Gh} {own : Own} {sl : Sl} {ty : TypeId}
theorem made_reps {zs : List Value} {z : α} (hr : T.rep p zs z) : ∀ m : Nat, Reps T p (madeCells zs.toArray (m * T.n)).toList (List.replicate m z) := by
  intro m
  induction m with
  | zero => simp [madeCells]; rfl
  | succ m ih =>
    have e : (madeCells zs.toArray ((m + 1) * T.n)).toList = zs ++ (madeCells zs.toArray (m * T.n)).toList := by
      have hzl : zs.length = T.n := T.len hr
      apply List.ext_getElem?
      intro j
      rw [List.getElem?_append]
      simp only [madeCells, Array.toList_map, Array.toList_range, List.getElem?_map]
      by_cases hj : j < zs.length
      · rw [if_pos hj]
        have hj2 : j < (m + 1) * T.n := by rw [Nat.succ_mul]; omega
        rw [List.getElem?_range hj2]
        simp only [Option.map_some, List.size_toArray, Nat.mod_eq_of_lt hj]
        rw [List.getElem?_eq_getElem hj]
        simp [hj]
      · rw [if_neg hj]
        by_cases hj2 : j < (m + 1) * T.n
        · have hj3 : j - zs.length < m * T.n := by rw [Nat.succ_mul] at hj2; omega
          rw [List.getElem?_range hj2, List.getElem?_range hj3]
          simp only [Option.map_some, List.size_toArray]
          congr 2
          exact (Nat.mod_eq_sub_mod (by omega))
        · have hj3 : ¬ j - zs.length < m * T.n := by rw [Nat.succ_mul] at hj2; omega
          rw [List.getElem?_eq_none (by simpa using hj2), List.getElem?_eq_none (by simpa using hj3)]
    rw [e, List.replicate_succ]
    exact ⟨zs, _, rfl, hr, ih⟩
theorem e_zerosF {t tn et : TypeId} {s x : Operand} {kx kn : IntKind} {bytes : Nat} (m : Nat) {zs : List Value} {z : α} (ha : appT P t et = some (T.n, bytes)) (htn : P.underlying tn = some (.int kn)) (hs : evS sl s = some (.slice none 0 0)) (hx : evS sl x = some (.int kx (m : Int)))
    (h0 : 0 < m) (hz : zeroOf P et = some zs.toArray) (hr : T.rep p zs z) (hbytes : m * bytes ≤ 140737488355328) (hm : m ≤ 140737488355328) :
    Eff P n g own sl (.call { callee := .builtin .append, args := #[s, x], argTypes := #[t, tn] }) ty (fun v' g' own' => ∃ b cap k, v' = .slice (some ⟨b, 0, none⟩) m cap ∧ g = g' ∧ own' = k :: own ∧ Buf p T et (.slice (some ⟨b, 0, none⟩) (List.replicate m z).length cap) k (List.replicate m z)) := by
  intro o a w Q K h1 h2 hf hst h
  obtain ⟨inf, z0, ht, hinf, hz0, hsz, hby, hzs⟩ := (AppT.of ha).out
  have hzc : z0.cells = zs.toArray := by
    unfold zeroOf at hz
    rw [hinf] at hz
    simpa [hz0] using hz
  have hrun := Lib.run_append_nil_zeros (P := P) w t tn o.type et inf z0 kx kn ht htn hinf hz0 m h0 (by rw [hsz]; exact T.pos) (by omega) (by rw [hby]; exact wide47 hbytes)
  have hge := grownCap_ge w m 0 et
  have hle : grownCap w m 0 et ≤ maxLen := grownCap_le_maxLen w m 0 et (by simp only [maxLen]; omega)
  generalize grownCap w m 0 et = cap at hrun hge hle
  have hlen : (Builtin.zeroCells z0.cells m ++ Builtin.zeroCells z0.cells (cap - m)).toList.length = cap * T.n := by
    simp only [Array.toList_append, List.length_append, Array.length_toList, size_zeroCells, hzs, ← Nat.add_mul]
    congr 1
    omega
  have hrep : Reps T p (Builtin.zeroCells z0.cells m).toList (List.replicate m z) := by
    have e : Builtin.zeroCells z0.cells m = madeCells zs.toArray (m * T.n) := by
      rw [← hzs, hzc]
      rfl
    rw [e]
    exact made_reps hr m
  have hal := (hst.drew).alloc et (Builtin.zeroCells z0.cells m ++ Builtin.zeroCells z0.cells (cap - m)).toList
  rw [Array.toArray_toList] at hal
  have : (execOp a.eval o).run P w = .ok (.value (.slice (some ⟨w.heap.size, 0, none⟩) m cap)) (w.drew.alloc (.cells (Builtin.zeroCells z0.cells m ++ Builtin.zeroCells z0.cells (cap - m)) et)) := by
    simp [execOp, h1, resolve, invoke, builtin, hf.ev hs, hf.ev hx, hrun]
  unfold Oper.wp
  rw [this]
  exact h _ _ _ _ (.refl g) hal ⟨_, _, _, rfl, rfl, rfl, by rw [List.length_replicate]; exact hm, .inr ⟨w.heap.size, cap, (Builtin.zeroCells z0.cells m).toList, (Builtin.zeroCells z0.cells (cap - m)).toList, by rw [List.length_replicate], by rw [Array.toList_append]; rfl, hrep, by rw [← Array.toList_append]; exact hlen, hle⟩⟩
end
section
variable {P : Program} {n : Nat} {ty : TypeId} {sl : List (Nat × SV)} {bl bl' : List BV} {v : SV} {f : Nat} {g : Gh} {ρ : Env} {own : Own} {fr : Sl}
def tAppZ (P : Program) (sl : List (Nat × SV)) (f : Nat) (t tn : TypeId) (s x : Operand) : Tr := match rowOf P t, P.underlying tn, evH sl s with
  | some (c, et, bytes), some (.int _), some (.v (.c (.k (.slice none 0 0)))) => asI sl x fun _ z => (match zeroOf P et with
    | some zs => (match constL zs.toList with
      | some l => encC c l fun u r => .grd (decide (0 < z ∧ z * bytes ≤ 140737488355328)) (.done ⟨vC (.own f), [], [.row c et (List.replicate z.toNat u)]⟩)
      | none => .no)
    | none => .no)
  | _, _, _ => .no
theorem tAppZ_ok {t tn : TypeId} {s x : Operand} (hf : bl[f]? = some .hole) (h : Told f (tAppZ P sl f t tn s x) bl bl' v) : EffH P n (.call { callee := .builtin .append, args := #[s, x], argTypes := #[t, tn] }) ty sl bl bl' v := by
  unfold tAppZ at h
  split at h
  · rename_i c et bytes kn hrow htn es
    obtain ⟨hu, happ, _, hby⟩ := rowOf_ok hrow
    obtain ⟨k, z, ex, h0⟩ := asI_told h
    have h1 := h0
    clear h h0
    split at h1
    · rename_i zs hzs
      split at h1
      · rename_i l hl
        obtain ⟨u, r, bl1, h2, hfz, henc⟩ := encC_told c h1
        clear h1
        obtain ⟨hg, rfl, rfl⟩ := h2
        have hg := of_decide_eq_true hg
        refine EffH.frz hfz (effH_row (hfz.hole hf) fun g ρ own fr hr => ?_)
        obtain ⟨vx, hx1, rfl, _⟩ := evH_real hr ex
        obtain ⟨vy, hy1, rfl, _⟩ := evH_real hr es
        have hz : z = ((z.toNat : Nat) : Int) := by omega
        have hall := constL_real (g := g) (ρ := ρ) (bl := bl1) hl
        obtain ⟨c1, c2, e1, e2, e3⟩ := henc.real hr c hall
        have hl1 : zs.toList.length = c.n := by
          have h1 := happ
          unfold appT at h1
          unfold zeroOf at hzs
          split at h1
          · rename_i e' i hu' hi
            split at h1
            · rename_i z0 hz0
              split at h1
              · rename_i hcnd
                simp only [Option.some.injEq, Prod.mk.injEq] at h1
                rw [hi] at hzs
                simp only [Option.bind_some, hz0, Option.map_some, Option.some.injEq] at hzs
                rw [← hzs, Array.length_toList, hcnd.2, h1.1, c.ty_n]
              · cases h1
            · cases h1
          · cases h1
        have hl2 : c1.length = c.n := by rw [c.ty.len e2, c.ty_n]
        have hc20 : c2 = [] := by
          have : zs.toList.length = c1.length + c2.length := by rw [e1, List.length_append]
          exact List.eq_nil_of_length_eq_zero (by omega)
        rw [hc20, List.append_nil] at e1
        have hbm : bytes * z.toNat ≤ 140737488355328 := by
          have : ((bytes * z.toNat : Nat) : Int) ≤ ((140737488355328 : Nat) : Int) := by
            rw [Int.natCast_mul, ← hz, Int.mul_comm]; exact hg.2
          exact Int.ofNat_le.1 this
        have hmz : z.toNat ≤ 140737488355328 := Nat.le_trans (Nat.le_mul_of_pos_left _ hby) hbm
        intro o a w Q K h1 h2 hfr hs hk
        refine e_zerosF (T := c.ty) z.toNat (zs := c1) (z := u) happ htn hy1 (by rw [← hz]; exact hx1) (by omega) (by rw [hzs, ← e1]) e2 (by rw [Nat.mul_comm]; exact hbm) hmz o a w Q K h1 h2 hfr hs fun v' g' own' w' hg' hs' ⟨b, cap, k, e4, e5, e6, e8⟩ => ?_
        exact hk v' g' own' w' hg' hs' ⟨_, _, _, by rw [e4, List.length_replicate], e5, e6, e8⟩
      · exact h1.elim
    · exact h1.elim
  · exact h.elim
end
theorem setRow_front : ∀ (vs b : List Value), vs.length ≤ b.length → setRow b 0 vs = vs ++ b.drop vs.length
  | [], b, _ => by simp [setRow]
  | v :: vs, [], h => by simp at h
  | v :: vs, x :: b, h => by
    have h1 := setRow_pre vs [v] b 0
    have h2 := setRow_front vs b (by simpa using h)
    simp only [List.length_singleton, Nat.add_zero, List.singleton_append] at h1
    show setRow (v :: b) (0 + 1) vs = _
    rw [Nat.zero_add, h1, h2]
    rfl
theorem setRow_eq (vs cs : List Value) (off : Nat) (h : off + vs.length ≤ cs.length) : setRow cs off vs = cs.take off ++ vs ++ cs.drop (off + vs.length) := by
  have h1 := setRow_pre vs (cs.take off) (cs.drop off) 0
  rw [List.take_append_drop, List.length_take, Nat.min_eq_left (by omega), Nat.add_zero] at h1
  rw [h1, setRow_front _ _ (by rw [List.length_drop]; omega), List.drop_drop, List.append_assoc]
section
variable {α : Type} {P : Program} {n : Nat} {T : Ty α} {p : Psi} {g : Gh} {own : Own} {sl : Sl} {ty : TypeId}
theorem Reps.many {xs ys : List α} {cs ds : List Value} {i : Nat} (h : Reps T p cs xs) (k : Reps T p ds ys) (hi : i + ys.length ≤ xs.length) : Reps T p (setRow cs (i * T.n) ds) (xs.take i ++ ys ++ xs.drop (i + ys.length)) := by
  have hl : i * T.n + ds.length = (i + ys.length) * T.n := by rw [k.len, Nat.add_mul]
  rw [setRow_eq _ _ _ (by rw [hl, h.len]; exact Nat.mul_le_mul_right _ hi), hl]
  exact ((h.take i).append k).append (h.drop (i + ys.length))
theorem Buf.many {et : TypeId} {A : Option Addr} {c : Nat} {kb : Bk} {xs ys : List α} {ds : List Value} {i : Nat} (h : Buf p T et (.slice A xs.length c) (some kb) xs) (k : Reps T p ds ys) (hi : i + ys.length ≤ xs.length) :
    A = some ⟨kb.g, 0, none⟩ ∧ i * T.n + ds.length ≤ kb.cs.length ∧ Buf p T et (.slice A (xs.take i ++ ys ++ xs.drop (i + ys.length)).length c) (some ⟨kb.g, kb.t, setRow kb.cs (i * T.n) ds⟩) (xs.take i ++ ys ++ xs.drop (i + ys.length)) := by
  obtain ⟨h0, h⟩ := h
  have hlen : (xs.take i ++ ys ++ xs.drop (i + ys.length)).length = xs.length := by
    simp only [List.length_append, List.length_take, List.length_drop]; omega
  rcases h with ⟨_, _, h3⟩ | ⟨b, cap, cs, sp, h1, h2, h3, h4, h5⟩
  · cases h3
  · injection h2 with h2
    subst h2
    injection h1 with e1 e2 e3
    subst e1; subst e3
    have hds : i * T.n + ds.length ≤ cs.length := by
      rw [k.len, h3.len, ← Nat.add_mul]; exact Nat.mul_le_mul_right _ hi
    refine ⟨rfl, by rw [List.length_append]; omega, by rw [hlen]; exact h0, .inr ⟨b, c, setRow cs (i * T.n) ds, sp, rfl, ?_, h3.many k hi, by rw [List.length_append, setRow_length, ← List.length_append]; exact h4, h5⟩⟩
    rw [setRow_app _ _ _ _ hds]
theorem e_many {op : Op} {et : TypeId} {A B : Option Addr} {c io i : Nat} {k : Option Bk} {xs ys : List α} {ds : List Value} {r : Value} (hi : own[io]? = some k) (hb : Buf p T et (.slice A xs.length c) k xs) (hd : Reps T p ds ys) (hl : i + ys.length ≤ xs.length)
    (hB : 0 < ys.length → B = offA A c i T.n)
    (hrun : ∀ (o : Oper) (a : Act) (w w' : World), o.op = op → o.type = ty → Fr n a sl → St w g own → (ys.length = 0 → w' = w) → (0 < ys.length → ∃ ad, B = some ad ∧ (storeCells ad ds).run P w = .ok () w') → (execOp a.eval o).run P w = .ok (.value r) w') :
    Eff P n g own sl op ty (fun v' g' own' => v' = r ∧ g = g' ∧ ∃ k', own' = own.set io k' ∧ Buf p T et (.slice A (xs.take i ++ ys ++ xs.drop (i + ys.length)).length c) k' (xs.take i ++ ys ++ xs.drop (i + ys.length))) := by
  intro o a w Q K h1 h2 hf hs h
  rcases Nat.eq_zero_or_pos ys.length with h0 | h0
  · have : ys = [] := List.length_eq_zero_iff.1 h0
    subst this
    have e := hrun o a w w h1 h2 hf hs (fun _ => rfl) (fun h => absurd h (by simp))
    unfold Oper.wp
    rw [e]
    refine h _ g (own.set io k) w (.refl g) (by rw [set_same hi]; exact hs) ⟨rfl, rfl, k, rfl, ?_⟩
    simpa using hb
  · cases k with
    | none =>
      rcases hb.2 with ⟨_, e, _⟩ | ⟨_, _, _, _, _, e, _⟩
      · subst e
        have hl : i + ys.length ≤ 0 := hl
        omega
      · cases e
    | some kb =>
      obtain ⟨e1, e2, e3⟩ := hb.many hd hl
      have hBe : B = some ⟨kb.g, i * T.n, none⟩ := by
        rw [hB h0, e1]
        unfold offA
        rw [if_neg]
        · show some (Addr.add ⟨kb.g, 0, none⟩ (i * T.n)) = _
          simp [Addr.add]
          try exact fun e => e.symm
        · have := hb.val
          obtain ⟨_, _, e4, e5⟩ := this
          injection e4 with _ _ e6
          omega
      obtain ⟨w', hst, hs'⟩ := run_storeCells_own (P := P) (g := g) (i := io) (k := kb) (vs := ds) (own := own) (off := i * T.n) kb.cs 0 hs hi (by simpa using hd.one) (by omega)
      have e := hrun o a w w' h1 h2 hf hs (fun h => absurd h (by omega)) (fun _ => ⟨_, hBe, hst⟩)
      unfold Oper.wp
      rw [e]
      exact h _ g _ w' (.refl g) hs' ⟨rfl, rfl, _, rfl, e3⟩
end
section
variable {P : Program} {n : Nat} {ty : TypeId} {sl : List (Nat × SV)} {bl bl' : List BV} {v : SV} {f : Nat} {g : Gh} {ρ : Env} {own : Own} {fr : Sl}
theorem set_len {α : Type} {xs ys : List α} {i : Nat} (h : i + ys.length ≤ xs.length) : (xs.take i ++ ys ++ xs.drop (i + ys.length)).length = xs.length := by
  simp only [List.length_append, List.length_take, List.length_drop]; omega
theorem effH_many {op : Op} {b : Nat} {d : Cd} {et : TypeId} {xs ys : List d.den} {i : Nat} {r : SV} (hb : bl[b]? = some (.row d et xs)) (hl : i + ys.length ≤ xs.length)
    (h : ∀ g ρ own fr, Rl g ρ ⟨sl, bl⟩ own fr → ∀ k, own[b]? = some k → Buf g.b d.ty et (.slice (ρ b).1 xs.length (ρ b).2) k xs → ∃ rv, RealS g ρ (bl.set b (.row d et (xs.take i ++ ys ++ xs.drop (i + ys.length)))) r rv ∧ Eff P n g own fr op ty (fun v' g' own' => v' = rv ∧ g = g' ∧ ∃ k', own' = own.set b k' ∧ Buf g.b d.ty et (.slice (ρ b).1 (xs.take i ++ ys ++ xs.drop (i + ys.length)).length (ρ b).2) k' (xs.take i ++ ys ++ xs.drop (i + ys.length)))) :
    EffH P n op ty sl bl (bl.set b (.row d et (xs.take i ++ ys ++ xs.drop (i + ys.length)))) r := by
  intro o a w Q K g ρ own fr h1 h2 hr hfr hs hk
  obtain ⟨k0, hk0, hB⟩ := hr.own_at hb
  obtain ⟨rv, hrv, he⟩ := h g ρ own fr hr k0 hk0 hB
  refine he o a w Q K h1 h2 hfr hs fun v g' own' w' hg hs' ⟨e1, e2, k', e3, hB'⟩ => ?_
  subst e1; subst e2; subst e3
  obtain ⟨hx, hr'⟩ := setB_ok hb (bv1 := .row d et (xs.take i ++ ys ++ xs.drop (i + ys.length))) (k := k') hr (.refl g) rfl (fun m hm => by
    have hm : some (xs.take i ++ ys ++ xs.drop (i + ys.length)).length = some m := hm
    rw [set_len hl] at hm; exact hm) hB'
  exact hk v g ρ _ w' (.refl g) hx hs' hr' hrv
def ovrL {α : Type} (xs : List α) (i : Nat) (ys : List α) : List α := xs.take i ++ ys ++ xs.drop (i + ys.length)
def tClear (P : Program) (sl : List (Nat × SV)) (t : TypeId) (x : Operand) : Tr := match rowOf P t, evH sl x with
  | some (c, et, _), some (.v (.c (.vw b cv l r))) => (match zeroOf P et with
    | some zs => (match constL zs.toList with
      | some cl => encC c cl fun u _ => .need b fun
        | .row d et' xs => (match d.same c, d.same cv, Nat.beq et' et with
          | some h, some _, true => .grd (decide (l ≤ r ∧ r ≤ xs.length)) (.done ⟨.any, [(b, .row d et' (ovrL xs l (List.replicate (r - l) (h.down ▸ u))))], []⟩)
          | _, _, _ => .no)
        | _ => .no
      | none => .no)
    | none => .no)
  | _, _ => .no
theorem zero_len {c : Cd} {et t : TypeId} {bytes : Nat} {zs : Array Value} (happ : appT P t et = some (c.ty.n, bytes)) (hzs : zeroOf P et = some zs) : zs.toList.length = c.n := by
  have h1 := happ
  unfold appT at h1
  unfold zeroOf at hzs
  split at h1
  · rename_i e' i hu' hi
    split at h1
    · rename_i z0 hz0
      split at h1
      · rename_i hcnd
        simp only [Option.some.injEq, Prod.mk.injEq] at h1
        rw [hi] at hzs
        simp only [Option.bind_some, hz0, Option.map_some, Option.some.injEq] at hzs
        rw [← hzs, Array.length_toList, hcnd.2, h1.1, c.ty_n]
      · cases h1
    · cases h1
  · cases h1
theorem run_clear_ {t et : TypeId} {B : Option Addr} {m cap k bytes : Nat} {zs : List Value} {w w' : World} (ha : appT P t et = some (k, bytes)) (hz : zeroOf P et = some zs.toArray) (h0 : m = 0 → w' = w)
    (h1 : 0 < m → ∃ ad, B = some ad ∧ (storeCells ad (madeCells zs.toArray (m * k)).toList).run P w = .ok () w') : (Builtin.clear_ #[t] ty #[.slice B m cap]).run P w = .ok (.tuple #[]) w' := by
  obtain ⟨inf, z0, ht, hinf, hz0, hsz, hby, hzs⟩ := (AppT.of ha).out
  have hzc : (z0.cells : Array Value) = zs.toArray := by
    unfold zeroOf at hz
    rw [hinf] at hz
    simpa [hz0] using hz
  have hzv : ∀ w, (zeroValue et).run P w = .ok z0 w := fun w => by simp [zeroValue, typeInfo, program, Sem.run, bind, Sem.bind, hinf, hz0, pure]
  have e : Builtin.zeroCells z0.cells m = madeCells zs.toArray (m * k) := by
    rw [← hzs, hzc]
    rfl
  rcases Nat.eq_zero_or_pos m with hm | hm
  · subst hm
    rw [h0 rfl]
    cases B <;> simp [Builtin.clear_, run_underlying ht]
  · obtain ⟨ad, rfl, hst⟩ := h1 hm
    rw [← e] at hst
    obtain ⟨m, rfl⟩ : ∃ q, m = q + 1 := ⟨m - 1, by omega⟩
    simp [Builtin.clear_, run_underlying ht, hzv, hst]
theorem tClear_ok {t : TypeId} {x : Operand} (h : Told f (tClear P sl t x) bl bl' v) : EffH P n (.call { callee := .builtin .clear, args := #[x], argTypes := #[t] }) ty sl bl bl' v := by
  unfold tClear at h
  split at h
  · rename_i c et by_ b cv l r hrow ex
    obtain ⟨hu, happ, _, hby⟩ := rowOf_ok hrow
    split at h
    · rename_i zs hzs
      split at h
      · rename_i cl hcl
        obtain ⟨u, r0, bl1, h2, hfz, henc⟩ := encC_told c h
        clear h
        obtain ⟨bv, hb, h⟩ := h2
        dsimp only at h
        split at h
        · rename_i d et' xs
          split at h
          · rename_i hk1 hk2 _ _ het
            obtain ⟨hk1⟩ := hk1; obtain ⟨hk2⟩ := hk2; subst hk1; subst hk2
            have het := Nat.eq_of_beq_eq_true het
            subst het
            obtain ⟨hg, rfl, rfl⟩ := h
            obtain ⟨hlr, hrx⟩ := of_decide_eq_true hg
            have hyl : l + (List.replicate (r - l) u).length ≤ xs.length := by rw [List.length_replicate]; omega
            refine EffH.frz hfz (effH_many (r := .any) (i := l) (ys := List.replicate (r - l) u) hb hyl fun g ρ own fr hr k hk hB => ⟨.tuple #[], (trivial : True), ?_⟩)
            obtain ⟨vx, hx1, hkn, rfl, hl⟩ := evH_real hr ex
            have hall := constL_real (g := g) (ρ := ρ) (bl := bl1) hcl
            obtain ⟨c1, c2, e1, e2, e3⟩ := henc.real hr d hall
            have hl1 := zero_len happ hzs
            have hl2 : c1.length = d.n := by rw [d.ty.len e2, d.ty_n]
            have hc20 : c2 = [] := by
              have : zs.toList.length = c1.length + c2.length := by rw [e1, List.length_append]
              exact List.eq_nil_of_length_eq_zero (by omega)
            rw [hc20, List.append_nil] at e1
            have hzs' : zeroOf P et' = some c1.toArray := by rw [hzs, ← e1]
            refine e_many (T := d.ty) (B := offA (ρ b).1 (ρ b).2 l d.n) (i := l) (ds := (madeCells c1.toArray ((r - l) * d.ty.n)).toList) hk hB (made_reps e2 (r - l)) hyl (fun _ => by rw [d.ty_n]) fun o a w w' q1 q2 hf hs q3 q4 => ?_
            rw [List.length_replicate] at q3 q4
            have := run_clear_ (P := P) (ty := o.type) (cap := (ρ b).2 - l) happ hzs' q3 q4
            simp [execOp, q1, resolve, invoke, builtin, hf.ev hx1, this]
          · exact h.elim
        · exact h.elim
      · exact h.elim
    · exact h.elim
  · exact h.elim
def dstT (sl : List (Nat × SV)) (x : Operand) (K : (b : Nat) → (d : Cd) → TypeId → List d.den → (l r : Nat) → Tr) : Tr := match evH sl x with
  | some (.v (.c (.own b))) => .need b fun | .row d et xs => K b d et xs 0 xs.length | _ => .no
  | some (.v (.c (.vw b cv l r))) => .need b fun | .row d et xs => (match d.same cv with | some _ => K b d et xs l r | none => .no) | _ => .no
  | _ => .no
theorem dstT_told {x : Operand} {K : (b : Nat) → (d : Cd) → TypeId → List d.den → (l r : Nat) → Tr} (h : Told f (dstT sl x K) bl bl' v) : ∃ b d et xs l r, bl[b]? = some (.row d et xs) ∧ Told f (K b d et xs l r) bl bl' v ∧
    ∀ g ρ own fr, Rl g ρ ⟨sl, bl⟩ own fr → l ≤ r ∧ r ≤ xs.length ∧ ∃ cap, evS fr x = some (.slice (offA (ρ b).1 (ρ b).2 l d.n) (r - l) cap) := by
  unfold dstT at h
  split at h
  · rename_i b ex
    obtain ⟨bv, hb, h⟩ := h
    dsimp only at h
    split at h
    · rename_i d et xs
      refine ⟨b, d, et, xs, 0, xs.length, hb, h, fun g ρ own fr hr => ?_⟩
      obtain ⟨vx, hx1, hkn, l, rfl, hl⟩ := evH_real hr ex
      have hl := hl _ _ hb rfl
      subst hl
      exact ⟨Nat.zero_le _, Nat.le_refl _, (ρ b).2, by rw [offA_zero, Nat.sub_zero]; exact hx1⟩
    · exact h.elim
  · rename_i b cv l r ex
    obtain ⟨bv, hb, h⟩ := h
    dsimp only at h
    split at h
    · rename_i d et xs
      split at h
      · rename_i hk _; obtain ⟨hk⟩ := hk; subst hk
        refine ⟨b, d, et, xs, l, r, hb, h, fun g ρ own fr hr => ?_⟩
        obtain ⟨vx, hx1, hkn, rfl, hl⟩ := evH_real hr ex
        obtain ⟨h1, h2⟩ := hl _ _ hb rfl
        exact ⟨h1, h2, _, hx1⟩
      · exact h.elim
    · exact h.elim
  · exact h.elim
def tCopy (P : Program) (sl : List (Nat × SV)) (t : TypeId) (x y : Operand) : Tr := match rowOf P t with
  | some (c, et, _) => dstT sl x fun b d et' xs l r => (match d.same c, Nat.beq et' et with
    | some _, true => srcT sl d b y fun ys => .done ⟨vC (.int .i64 ((ys.take (r - l)).length : Int)), [(b, .row d et' (ovrL xs l (ys.take (r - l))))], []⟩
    | _, _ => .no)
  | none => .no
theorem run_copy_ {t t' et : TypeId} {A B : Option Addr} {m m' cap cap' k : Nat} {cs : List Value} {w w' : World} (hu : P.underlying t = some (.slice et)) (hsz : cellsOfT P et = some k) (hs : 0 < Nat.min m' m * k → ∃ ad, A = some ad ∧ ∀ j u, cs[j]? = some u → w.cell? (ad.add j) = some u)
    (hl : cs.length = Nat.min m' m * k) (h0 : Nat.min m' m = 0 → w' = w) (h1 : 0 < Nat.min m' m → ∃ ad, B = some ad ∧ (storeCells ad cs).run P w = .ok () w') (hk : 0 < k) : (Builtin.copy_ #[t, t'] ty #[.slice B m cap, .slice A m' cap']).run P w = .ok (.int .i64 (Nat.min m' m : Int)) w' := by
  have hfc : (Builtin.firstCells k (Nat.min m' m) (.slice A m' cap')).run P w = .ok cs.toArray w := by
    rcases Nat.eq_zero_or_pos (Nat.min m' m * k) with h | h
    · rw [h] at hl
      have := List.length_eq_zero_iff.1 hl
      subst this
      cases A with
      | none => simp [Builtin.firstCells]
      | some ad =>
        have := run_loadCells_list (P := P) w ad [] (fun j v e => by simp at e)
        simp only [Builtin.firstCells, h]
        simpa using this
    · obtain ⟨ad, rfl, hc⟩ := hs h
      have := run_loadCells_list (P := P) w ad cs hc
      rw [hl] at this
      simp only [Builtin.firstCells]
      exact this
  have hsz' := run_sizeOf_of hsz w
  simp only [Builtin.copy_]
  simp [run_underlying hu, Builtin.lenOf, hsz', hfc]
  rcases Nat.eq_zero_or_pos (Nat.min m' m) with h | h
  · rw [h0 h]
    rw [h, Nat.zero_mul] at hl
    have := List.length_eq_zero_iff.1 hl
    subst this
    cases B <;> simp [storeCells, goInt]
  · obtain ⟨ad, rfl, hst⟩ := h1 h
    simp [hst, goInt]
theorem tCopy_ok {t t' : TypeId} {x y : Operand} (h : Told f (tCopy P sl t x y) bl bl' v) : EffH P n (.call { callee := .builtin .copy, args := #[x, y], argTypes := #[t, t'] }) ty sl bl bl' v := by
  unfold tCopy at h
  split at h
  · rename_i c et by_ hrow
    obtain ⟨hu, happ, hsz, hby⟩ := rowOf_ok hrow
    obtain ⟨b, d, et', xs, l, r, hb, h2, hdst⟩ := dstT_told h
    clear h
    split at h2
    · rename_i hk1 _ het
      obtain ⟨hk1⟩ := hk1; subst hk1
      have het := Nat.eq_of_beq_eq_true het
      subst het
      obtain ⟨ys, h3, hsrc⟩ := srcT_told h2
      clear h2
      obtain ⟨rfl, rfl⟩ := h3
      intro o a w Q K g ρ own fr
      by_cases hyl : l + (ys.take (r - l)).length ≤ xs.length
      · revert o a w Q K g ρ own fr
        refine effH_many (i := l) (ys := ys.take (r - l)) hb hyl fun g ρ own fr hr k hk hB => ?_
        obtain ⟨hlr, hrx, cap, hx1⟩ := hdst g ρ own fr hr
        obtain ⟨hyl2, A, cap', news, hy1, hy2, hy3⟩ := hsrc g ρ own fr hr
        have hmin : Nat.min ys.length (r - l) = (ys.take (r - l)).length := by rw [List.length_take]; exact Nat.min_comm _ _
        have hnl : (news.take ((ys.take (r - l)).length * d.ty.n)).length = Nat.min ys.length (r - l) * d.ty.n := by
          rw [hmin, List.length_take, hy2.len]
          exact Nat.min_eq_left (Nat.mul_le_mul_right _ (by rw [List.length_take]; exact Nat.min_le_right _ _))
        have hrep : Reps d.ty g.b (news.take ((ys.take (r - l)).length * d.ty.n)) (ys.take (r - l)) := by
          have := hy2.take (ys.take (r - l)).length
          rw [show ys.take (ys.take (r - l)).length = ys.take (r - l) by rw [List.length_take, List.take_eq_take_iff]; omega] at this
          exact this
        refine ⟨.int .i64 ((ys.take (r - l)).length : Int), ⟨rfl, inK_len (by rw [List.length_take]; omega)⟩, ?_⟩
        refine e_many (T := d.ty) (B := offA (ρ b).1 (ρ b).2 l d.n) (i := l) hk hB hrep hyl (fun _ => by rw [d.ty_n]) fun o a w w' q1 q2 hf hs q3 q4 => ?_
        have hs3 := hy3 w hs
        have := run_copy_ (P := P) (ty := o.type) (t' := t') (cap := cap) (cap' := cap') (A := A) (w := w) (cs := news.take ((ys.take (r - l)).length * d.ty.n)) hu hsz (fun hp => by
          have h0 : 0 < ys.length := by
            rcases Nat.eq_zero_or_pos ys.length with h | h
            · rw [h] at hp; simp at hp
            · exact h
          obtain ⟨ad, e1, e2⟩ := hs3 h0
          exact ⟨ad, e1, fun j u hu => e2 j u (by rw [List.getElem?_take] at hu; split at hu; exact hu; cases hu)⟩) hnl (fun h => q3 (by rw [← hmin]; exact h)) (fun h => q4 (by rw [← hmin]; exact h)) d.ty.pos
        rw [hmin] at this
        simp [execOp, q1, resolve, invoke, builtin, hf.ev hx1, hf.ev hy1, this]
      · intro h1 h2 hr hf hs hk
        obtain ⟨hlr, hrx, _⟩ := hdst g ρ own fr hr
        exact absurd (by rw [List.length_take]; omega) hyl
    · exact h2.elim
  · exact h.elim
end
section
variable {α : Type} {P : Program} {n : Nat} {T : Ty α} {p : Psi} {g : Gh} {own : Own} {sl : Sl} {ty : TypeId}
theorem run_append_view {w : World} {t ty' et : TypeId} {bytes : Nat} (ha : AppT P t et T.n bytes) (hs : St w g own) {i : Nat} {A : Option Addr} {c : Nat} {k : Option Bk} {xs : List α} (hi : own[i]? = some k) (hb : Buf p T et (.slice A xs.length c) k xs)
    {l r : Nat} (hl : 0 < l) (hlr : l ≤ r) (hr : r ≤ xs.length) {A2 : Option Addr} {m c2 : Nat} {news : List Value} {ys : List α} (hm : m = ys.length) (hsrc : Src w A2 m news) (hrep : Reps T p news ys) (hbytes : (r + ys.length) * bytes ≤ 140737488355328) (hlen : r + ys.length ≤ 140737488355328) :
    ∃ A' c' w' k', (Builtin.append_ #[t, t] ty' #[.slice (offA A c l T.n) (r - l) (c - l), .slice A2 m c2]).run P w = .ok (.slice A' (r - l + ys.length) c') w' ∧ St w' g (own.set i k') ∧
      ((A' = offA A c l T.n ∧ c' = c - l ∧ Buf p T et (.slice A (xs.take r ++ ys).length c) k' (xs.take r ++ ys)) ∨ Buf p T et (.slice A' ((xs.drop l).take (r - l) ++ ys).length c') k' ((xs.drop l).take (r - l) ++ ys)) := by
  obtain ⟨inf, z, ht, hinf, hz, hsz, hby, hzs⟩ := ha.out
  have hcell : cellsOfT P et = some T.n := by simp [cellsOfT, hinf, hsz]
  have hcap : xs.length ≤ c := by
    obtain ⟨_, _, e4, e5⟩ := hb.val
    injection e4 with _ _ e6
    omega
  have hlr2 : (xs.take r).length = r := by rw [List.length_take]; omega
  subst hm
  by_cases hy : ys = []
  · subst hy
    refine ⟨offA A c l T.n, c - l, w, k, ?_, by rw [set_same hi]; exact hs, .inl ⟨rfl, rfl, by rw [List.append_nil]; exact hb.cut r hr⟩⟩
    have hle : r - l ≤ c - l := by omega
    cases A2 with
    | none => exact run_append_none ht hcell hle
    | some ad => cases (offA A c l T.n) <;> simp [Builtin.append_, run_underlying ht, run_sizeOf_of hcell, Builtin.lenOf, hle, Builtin.firstCells, loadCells, loadCellsFrom, storeCells]
  · have hpos : 0 < ys.length := List.length_pos_iff.2 hy
    obtain ⟨ad, rfl, hnews⟩ := hsrc hpos
    obtain ⟨h0, hb'⟩ := hb
    rcases hb' with ⟨h1, h2, h3⟩ | ⟨b, cap, cs, sp, h1, h2, h3, h4, h5⟩
    · subst h2
      have hr : r ≤ 0 := hr
      omega
    · injection h1 with e1 e2 e3
      subst e1; subst e3; subst h2
      have hnl : news.length = ys.length * T.n := hrep.len
      have hcs := h3.len
      have hrn : r * T.n ≤ cs.length := by rw [hcs]; exact Nat.mul_le_mul_right _ hr
      have hold : ∀ j u, ((cs.drop (l * T.n)).take ((r - l) * T.n))[j]? = some u → w.cell? ⟨b, l * T.n + j, none⟩ = some u := fun j u hu => by
        have := hs.has _ (List.mem_of_getElem? hi)
        rw [List.getElem?_take] at hu
        split at hu
        · rw [List.getElem?_drop] at hu
          simp [World.cell?, this, Bk.obj_ty]
          rw [List.getElem?_append_left (by rcases Nat.lt_or_ge (l * T.n + j) cs.length with h | h; exact h; rw [List.getElem?_eq_none h] at hu; cases hu)]
          exact hu
        · cases hu
      by_cases hroom : r - l + ys.length ≤ c - l
      · have hne : ¬ c = l := by omega
        have hoff : offA (some (⟨b, 0, none⟩ : Addr)) c l T.n = some ⟨b, l * T.n, none⟩ := by
          unfold offA
          rw [if_neg hne]
          simp [addr_add]
        have hfit : r * T.n + news.length ≤ (cs ++ sp).length := by
          rw [h4, hnl, ← Nat.add_mul]
          exact Nat.mul_le_mul_right _ (by omega)
        obtain ⟨w', hst, hs'⟩ := run_storeCells_own (P := P) (g := g) (i := i) (k := ⟨b, et, cs ++ sp⟩) (vs := news) (own := own) (off := r * T.n) (cs ++ sp) 0 hs hi (by simpa using hrep.one) (by omega)
        have hadd : l * T.n + (r - l) * T.n = r * T.n := by rw [← Nat.add_mul]; congr 1; omega
        have hf := run_firstCells_some (P := P) w T.n ys.length ad ys.length c2 news (by rw [hnl]) hnews
        refine ⟨offA (some ⟨b, 0, none⟩) c l T.n, c - l, w', _, ?_, hs', .inl ⟨rfl, rfl, ?_⟩⟩
        · rw [hoff]
          have hst' : (storeCells ⟨b, l * T.n + (r - l) * T.n, none⟩ news).run P w = .ok () w' := by rw [hadd]; exact hst
          simp [Builtin.append_, run_underlying ht, run_sizeOf_of hcell, Builtin.lenOf, hroom, hf, addr_add, hst']
        · refine ⟨by rw [List.length_append, hlr2]; exact hlen, .inr ⟨b, c, cs.take (r * T.n) ++ news, (cs ++ sp).drop (r * T.n + news.length), by rw [List.length_append], ?_, (h3.take r).append hrep, ?_, h5⟩⟩
          · rw [Nat.add_zero, setRow_eq _ _ _ hfit, List.take_append_of_le_length hrn]
          · rw [List.length_append, List.length_append, List.length_take, List.length_drop, Nat.min_eq_left hrn]
            omega
      · have hoff : ∃ a, offA (some (⟨b, 0, none⟩ : Addr)) c l T.n = some a ∧ (0 < r - l → a = ⟨b, l * T.n, none⟩) := by
          unfold offA
          by_cases h : c = l
          · exact ⟨⟨b, 0, none⟩, by rw [if_pos h], fun h' => by omega⟩
          · refine ⟨⟨b, l * T.n, none⟩, by rw [if_neg h]; simp [addr_add], fun _ => rfl⟩
        obtain ⟨a0, ea, hab⟩ := hoff
        have holen : ((cs.drop (l * T.n)).take ((r - l) * T.n)).length = (r - l) * T.n := by
          rw [List.length_take, List.length_drop]
          have : l * T.n + (r - l) * T.n = r * T.n := by rw [← Nat.add_mul]; congr 1; omega
          omega
        have hbig : (r - l + ys.length) * inf.bytes ≤ 140737488355328 := by
          rw [hby]
          exact Nat.le_trans (Nat.mul_le_mul_right _ (by omega)) hbytes
        obtain ⟨v', w', hrun, how', hgrow⟩ := run_append_arg_grows (P := P) w t ty' et inf z T.n inf.bytes ht hinf hz hsz rfl hzs T.pos a0 (r - l) (c - l) ((cs.drop (l * T.n)).take ((r - l) * T.n)) holen (fun j u hu => by
            have h0 : 0 < r - l := by
              rcases Nat.eq_zero_or_pos (r - l) with h | h
              · rw [h] at hu; simp at hu
              · exact h
            rw [hab h0, addr_add]
            exact hold j u hu) ad ys.length c2 news hnl hnews (by omega) (by simp only [maxLen]; omega) hbig
        have hlenpos : 0 < r - l + ys.length := by omega
        rcases how'.2 with ⟨rfl, hz0⟩ | ⟨b', cap', cur, rfl, hge, hheap, hnc, hcm, hcsz, htake⟩
        · omega
        · refine ⟨some ⟨b', 0, none⟩, cap', w', some ⟨b', et, cur.toList⟩, by rw [ea]; exact hrun, ?_, .inr ?_⟩
          · refine hs.swap hi _ hgrow.os hgrow.tape hgrow.output (fun b hb hne => hgrow.block b hb fun e => by cases e) fun k' hk' => ?_
            injection hk' with hk'
            subst hk'
            exact ⟨by simpa [Bk.obj_ty] using hheap, .inr hge⟩
          · have hpl : ((xs.drop l).take (r - l)).length = r - l := part_len hr
            have hc2 : cur.toList = (((cs.drop (l * T.n)).take ((r - l) * T.n)) ++ news) ++ cur.toList.drop ((r - l + ys.length) * T.n) := by rw [← htake, List.take_append_drop]
            refine ⟨by rw [List.length_append, hpl]; omega, .inr ⟨b', cap', ((cs.drop (l * T.n)).take ((r - l) * T.n)) ++ news, cur.toList.drop ((r - l + ys.length) * T.n), by rw [List.length_append, hpl], by rw [← hc2], (((h3.drop l).take (r - l)).append hrep), ?_, hcm⟩⟩
            rw [← hc2]
            simpa using hcsz
end
section
variable {P : Program} {n : Nat} {ty : TypeId} {sl : List (Nat × SV)} {bl bl' : List BV} {v : SV} {f : Nat} {g : Gh} {ρ : Env} {own : Own} {fr : Sl}
def tAppV (P : Program) (sl : List (Nat × SV)) (t t' : TypeId) (s x : Operand) : Tr := match rowOf P t, Nat.beq t t', evH sl s with
  | some (c, et, bytes), true, some (.v (.c (.vw b cv l r))) => .need b fun
      | .row d et' xs => (match d.same c, d.same cv, Nat.beq et' et && Nat.ble 1 l with
        | some _, some _, true => srcT sl d b x fun ys => .grd (decide ((r + ys.length) * bytes ≤ 140737488355328)) (.done ⟨vC (.ro d ((xs.drop l).take (r - l) ++ ys) true), [(b, .no)], []⟩)
        | _, _, _ => .no)
      | _ => .no
  | _, _, _ => .no
theorem tAppV_ok {t t' : TypeId} {s x : Operand} (h : Told f (tAppV P sl t t' s x) bl bl' v) :
    EffH P n (.call { callee := .builtin .append, args := #[s, x], argTypes := #[t, t'] }) ty sl bl bl' v := by
  unfold tAppV at h
  split at h
  · rename_i c et bytes b cv l r hrow htt es
    have htt := Nat.eq_of_beq_eq_true htt
    subst htt
    obtain ⟨hu, happ, _, hby⟩ := rowOf_ok hrow
    obtain ⟨bv, hb, h⟩ := h
    dsimp only at h
    split at h
    · rename_i d et' xs
      split at h
      · rename_i hk0 hk2 _ _ he
        obtain ⟨hk0⟩ := hk0; obtain ⟨hk2⟩ := hk2; subst hk0; subst hk2
        simp only [Bool.and_eq_true] at he
        obtain ⟨he, hl1⟩ := he
        have he := Nat.eq_of_beq_eq_true he
        have hl1 := Nat.le_of_ble_eq_true hl1
        subst he
        obtain ⟨ys, h2, hsrc⟩ := srcT_told h
        clear h
        obtain ⟨hg, rfl, rfl⟩ := h2
        have hg := of_decide_eq_true hg
        intro o a w Q K g ρ own fr h1 h2 hr hfr hs hk
        obtain ⟨vs', hs1, hkn, rfl, hl⟩ := evH_real hr es
        obtain ⟨hlr, hrx⟩ := hl _ _ hb rfl
        obtain ⟨k0, hk0, hB⟩ := hr.own_at hb
        have hB : Buf g.b d.ty et' (.slice (ρ b).1 xs.length (ρ b).2) k0 xs := hB
        obtain ⟨hyl, A2, cap2, news, hx1, hx2, hx3⟩ := hsrc g ρ own fr hr
        have hlb := get_lt hk0
        have hpl : ((xs.drop l).take (r - l)).length = r - l := part_len hrx
        obtain ⟨A', c', w', k', hrun, hs', hres⟩ := run_append_view (P := P) (ty' := o.type) (c2 := cap2) (AppT.of happ) hs hk0 hB (l := l) (r := r) (by omega) hlr hrx rfl (hx3 w hs) hx2 hg (le_mul_bytes hby hg)
        have key : ∃ g', g.le g' ∧ St w' g' ((own.set b k').set b none) ∧ Arr g'.b d.ty A' c' ((xs.drop l).take (r - l) ++ ys) := by
          have hi' : (own.set b k')[b]? = some k' := by simp [List.getElem?_set, hlb]
          rcases hres with ⟨rfl, rfl, hB'⟩ | hB'
          · have key : ∃ g' , g.le g' ∧ St w' g' ((own.set b k').set b none) ∧ Arr g'.b d.ty (ρ b).1 (ρ b).2 (xs.take r ++ ys) :=
              wpq_freeze (K := fun _ w' => ∃ g' , g.le g' ∧ St w' g' ((own.set b k').set b none) ∧ Arr g'.b d.ty (ρ b).1 (ρ b).2 (xs.take r ++ ys)) (n := 0) (sl := []) b hi' hB' (fun g' h1 h2 a w' _ h3 => ⟨g', h1, h3, h2⟩) ⟨#[], []⟩ w' ⟨rfl, rfl, fun _ _ h => by cases h⟩ hs'
            obtain ⟨g', h1, h2, h3⟩ := key
            refine ⟨g', h1, h2, ?_⟩
            have h4 := h3.cut_from l (by rw [List.length_append, List.length_take]; omega)
            rw [List.drop_append_of_le_length (by rw [List.length_take]; omega), List.drop_take] at h4
            exact h4
          · exact wpq_freeze (K := fun _ w' => ∃ g' , g.le g' ∧ St w' g' ((own.set b k').set b none) ∧ Arr g'.b d.ty A' c' ((xs.drop l).take (r - l) ++ ys)) (n := 0) (sl := []) b hi' hB' (fun g' h1 h2 a w' _ h3 => ⟨g', h1, h3, h2⟩) ⟨#[], []⟩ w' ⟨rfl, rfl, fun _ _ h => by cases h⟩ hs'
        obtain ⟨g', hg1, hs2, harr⟩ := key
        rw [List.set_set] at hs2
        have hx : Ext ρ bl ρ (bl.set b .no) := Ext.set_at hb rfl fun m hm => by cases hm
        have hr1 := hr.setB (g' := g') (bv1 := .no) (k := none) hg1 hb rfl (fun m hm => by cases hm) rfl
        have hrun' : (execOp a.eval o).run P w = .ok (.value (.slice A' (r - l + ys.length) c')) w' := by
          have hs1' : evS fr s = some (.slice (offA (ρ b).1 (ρ b).2 l d.ty.n) (r - l) ((ρ b).2 - l)) := by rw [d.ty_n]; exact hs1
          simp [execOp, h1, resolve, invoke, builtin, hfr.ev hs1', hfr.ev hx1, hrun]
        unfold Oper.wp
        rw [hrun']
        refine hk _ g' ρ _ w' hg1 hx hs2 hr1 ⟨A', c', by rw [List.length_append, hpl], harr⟩
      · exact h.elim
    · exact h.elim
  · exact h.elim
end
def tStoreC (P : Program) (sl : List (Nat × SV)) (f : Nat) (t : TypeId) (x y : Operand) : Tr := match evH sl y with
  | some (.v (.c (.vw rb c l h))) => (match evH sl x, Nat.beq l 0 with
    | some (.v (.c (.ptr b off))), true => .need rb fun
      | .row d et xs => .need b fun
        | .cells t0 cs => (match fitsT P t 1 off cs.length with | true => .done ⟨.any, [(rb, .no), (b, .cells t0 (setRowC cs off [.own f]))], [.row d et (xs.take h)]⟩ | false => .no)
        | _ => .no
      | _ => .no
    | _, _ => tStore P sl t x y)
  | _ => tStore P sl t x y
section
variable {P : Program} {n : Nat} {ty : TypeId} {sl : List (Nat × SV)} {bl bl' : List BV} {v : SV} {f : Nat} {g : Gh} {ρ : Env} {own : Own} {fr : Sl}
theorem Rl.cutF {w : World} {b r : Nat} {c d : Cd} {et : TypeId} {xs : List d.den} {v : Value} (hr : Rl g ρ ⟨sl, bl⟩ own fr) (hs : St w g own) (hf : bl[f]? = some .hole) (hb : bl[b]? = some (.row d et xs)) (hv : RealC g ρ bl (.vw b c 0 r) v) :
    ∃ ρ' own', St w g own' ∧ Rl g ρ' ⟨sl, (bl.set b .no).set f (.row d et (xs.take r))⟩ own' fr ∧ RealC g ρ' ((bl.set b .no).set f (.row d et (xs.take r))) (.own f) v ∧ Ext ρ bl ρ' ((bl.set b .no).set f (.row d et (xs.take r))) := by
  obtain ⟨hkn, rfl, hl⟩ := hv
  have hl := (hl _ _ hb rfl).2
  have hlr : (xs.take r).length = r := by rw [List.length_take]; omega
  obtain ⟨k0, hk0, hB⟩ := hr.own_at hb
  have hB : Buf g.b d.ty et (.slice (ρ b).1 xs.length (ρ b).2) k0 xs := hB
  have hB := hB.cut r hl
  have hbf : b ≠ f := fun e => by subst e; rw [hf] at hb; cases hb
  have hno := hr.hole_none hf
  have hst := hs.move (b := b) (f := f) (k := k0) hk0 hno hbf
  have hx : Ext ρ bl ρ (bl.set b .no) := Ext.set_at hb rfl fun m hm => by cases hm
  have hr1 := hr.setB (g' := g) (bv1 := .no) (k := none) (.refl g) hb rfl (fun m hm => by cases hm) rfl
  have hf1 : (bl.set b .no)[f]? = some .hole := by rw [get_ne hbf]; exact hf
  have hx1 : Ext ρ (bl.set b .no) (setρ ρ f (ρ b)) ((bl.set b .no).set f (.row d et (xs.take r))) := Ext.set_hole hf1
  have hr2 := hr1.lay (g' := g) (bv := .row d et (xs.take r)) (k := k0) (e := ρ b) (.refl g) hf1 hB
  have hlt : f < (bl.set b .no).length := by rw [List.length_set]; exact get_lt hf
  refine ⟨setρ ρ f (ρ b), _, hst, hr2, ?_, hx.trans hx1⟩
  rw [offA_zero, Nat.sub_zero, Nat.sub_zero]
  refine ⟨⟨.row d et (xs.take r), by simp [List.getElem?_set, get_lt hf], rfl⟩, r, by rw [setρ_at], fun bv m e1 e2 => ?_⟩
  have e3 : ((bl.set b .no).set f (.row d et (xs.take r)))[f]? = some (.row d et (xs.take r)) := by simp [List.getElem?_set, get_lt hf]
  rw [e3] at e1; injection e1 with e1; subst e1
  have e2 : some (xs.take r).length = some m := e2
  injection e2 with e2
  omega
theorem tStoreC_ok {t : TypeId} {x y : Operand} (hf : ∀ rb c l r, evH sl y = some (.v (.c (.vw rb c l r))) → bl[f]? = some .hole) (h : Told f (tStoreC P sl f t x y) bl bl' v) : EffH P n (.store t x y) ty sl bl bl' v := by
  unfold tStoreC at h
  split at h
  case h_2 => exact tStore_ok h
  rename_i rb c l r ey
  split at h
  case h_2 => exact tStore_ok h
  rename_i b off ex hl0
  have hl0 := Nat.eq_of_beq_eq_true hl0
  subst hl0
  have hf := hf _ _ _ _ ey
  obtain ⟨bv, hrb, h⟩ := h
  dsimp only at h
  split at h
  case h_2 => exact h.elim
  rename_i d et xs
  obtain ⟨bv, hb, h⟩ := h
  dsimp only at h
  split at h
  case h_2 => exact h.elim
  rename_i t0 lc
  split at h
  case h_2 => exact h.elim
  rename_i hfit
  obtain ⟨rfl, rfl⟩ := h
  obtain ⟨hz, hle⟩ := fitsT_ok hfit
  have hbr : rb ≠ b := fun e => by subst e; rw [hrb] at hb; cases hb
  have hfb : f ≠ b := fun e => by subst e; rw [hf] at hb; cases hb
  intro o a w Q K g ρ own fr h1 h2 hr hfr hs hk
  obtain ⟨vx, hx1, hx2⟩ := evH_real hr ex
  obtain ⟨vy, hy1, hy2⟩ := evH_real hr ey
  have hy2 : RealC g ρ bl (.vw rb c 0 r) vy := hy2
  obtain ⟨ρ1, own1, hs1, hr1, hv1, he1⟩ := hr.cutF hs hf hrb hy2
  have hx2 := RealC.ext (.refl g) he1 hx2
  obtain ⟨_, ad, ha, rfl⟩ := hx2
  have hb1 : ((bl.set rb .no).set f (.row d et (xs.take r)))[b]? = some (.cells t0 lc) := by rw [get_ne hfb, get_ne hbr]; exact hb
  obtain ⟨k, hko, b0, cs, rfl, h4, h5⟩ := hr1.own_at hb1
  rw [ha] at h4; injection h4 with h4; subst h4
  rw [addr_add, Nat.zero_add] at hx1
  have hone := realC_one hv1
  refine e_store (P := P) (vs := [vy]) hx1 hy1 hko rfl hone.2 hz (by rw [List.all_cons, hone.1]; rfl) (Nat.ble_eq_true_of_le (by rw [← h5.len]; exact hle)) rfl o a w Q K h1 h2 hfr hs1 fun v g' own' w' hg hs' ⟨e1, e2⟩ => ?_
  subst e1; subst e2
  have e : applyE bl f ⟨.any, [(rb, .no), (b, .cells t0 (setRowC lc off [.own f]))], [.row d et (xs.take r)]⟩ = ((bl.set rb .no).set f (.row d et (xs.take r))).set b (.cells t0 (setRowC lc off [.own f])) := by
    show ((bl.set rb .no).set b _).set f _ = _
    exact List.set_comm _ _ (Ne.symm hfb)
  rw [e] at hk
  have hx : Ext ρ1 ((bl.set rb .no).set f (.row d et (xs.take r))) ρ1 (((bl.set rb .no).set f (.row d et (xs.take r))).set b (.cells t0 (setRowC lc off [.own f]))) := Ext.set_at hb1 rfl fun m hm => by cases hm
  have hrl := hr1.setB (g' := g) (bv1 := .cells t0 (setRowC lc off [.own f])) (k := some ⟨b0, t0, setRow cs off [vy]⟩) (.refl g) hb1 rfl (fun m hm => by cases hm) ⟨b0, _, rfl, ha, (setRowC_real off (vs := [CV.own f]) (us := [vy]) (show All2 (RealC g ρ1 _) [CV.own f] [vy] from ⟨hv1, trivial⟩) h5).mono fun _ _ => RealC.ext (.refl g) hx⟩
  exact hk v g ρ1 _ w' (.refl g) (he1.trans hx) hs' hrl trivial
end
def mxNew (S : FSp) : List Sch → Nat
  | [] => 0
  | s :: l => Nat.max (s.bl.length - S.ps.bl.length) (mxNew S l)
def mxL : List FSp → Nat
  | [] => 0
  | S :: l => Nat.max (mxNew S S.rs) (mxL l)
def stepM (P : Program) (tbl : FuncId → List FSp) (sl : List (Nat × SV)) : Op → Nat
  | .alloc _ => 1
  | .box _ _ => 1
  | .buildSlice _ _ _ => 1
  | .makeSlice _ _ _ => 1
  | .store _ _ y => match evH sl y with | some (.v (.c (.vw _ _ _ _))) => 1 | _ => 0
  | .call c => match c.callee with
    | .builtin .append => 1
    | .value x => (match evH sl x with
      | some (.v (.c fv)) => (match fnOf fv with | some (f, _) => mxL (tbl f) | none => 0)
      | _ => 0)
    | .invoke x name => (match evH sl x with
      | some (.v (.c (.ifc t _))) => (match mthOf P t name with | some f => mxL (tbl f) | none => 0)
      | _ => 0)
    | _ => 0
  | _ => 0
def isView (sl : List (Nat × SV)) (s : Operand) : Bool := match evH sl s with
  | some (.v (.c (.vw _ _ l _))) => Nat.ble 1 l
  | _ => false
def stepC (P : Program) (tbl : FuncId → List FSp) (sl : List (Nat × SV)) (f m : Nat) (cl : Callee) (args : List Operand) (ats : List TypeId) : Tr := match cl with
  | .value x => tCall P tbl sl f m x args
  | .invoke x name => tInv P tbl sl f m x name args
  | .builtin b => (match b, args, ats with
    | .append, [s, x], [t, t'] => (match P.underlying t' with | some (.int _) => tAppZ P sl f t t' s x | _ => (match isView sl s with | true => tAppV P sl t t' s x | false => tApp P sl f t t' s x))
    | .len, [x], [t] => tLen P sl t x
    | .cap, [x], [t] => tCap P sl t x
    | .clear, [x], [t] => tClear P sl t x
    | .copy, [x, y], [t, _] => tCopy P sl t x y
    | b, [x, y], _ => tMM b sl x y
    | _, _, _ => .no)
def stepH (P : Program) (tbl : FuncId → List FSp) (sl : List (Nat × SV)) (f : Nat) (op : Op) (ty : TypeId) : Tr := match op with
  | .move x => tMove sl x
  | .assign x => tMove sl x
  | .pick c x y => tPick sl c x y
  | .alloc t => tAlloc P f t
  | .box t x => tBox sl f t x
  | .build t parts => tBuild P sl t parts.toList
  | .buildSlice t len parts => tLit P sl f t len parts.toList
  | .load t x => tLoad P sl t x
  | .store t x y => tStoreC P sl f t x y
  | .nilCheck x => tNil sl x
  | .binOp op t x y _ => tBin P sl op t x y
  | .unOp op _ x => tUn sl op x
  | .convert s d x => tText P sl s d x
  | .makeFunc fn first captured => tFn sl fn first.toList captured.toList
  | .makeInterface t x => tIfc P sl t x
  | .makeSlice t x y => tMake P sl f t x y
  | .slice t x lo hi none => tSlice P sl t x lo hi
  | .fieldAddr t x i => tFieldA P sl t x i
  | .field t x i => tField P sl t x i
  | .indexAddr t x i => tIndexA P sl t x i
  | .index t x i => tIndex P sl t x i
  | .extract x i => tExtract sl x i
  | .call c => stepC P tbl sl f (stepM P tbl sl op) c.callee c.args.toList c.argTypes.toList
  | _ => .no
section
variable {P : Program} {n : Nat} {ty : TypeId} {sl : List (Nat × SV)} {bl bl' : List BV} {v : SV} {f : Nat}
theorem stepC_ok {tbl : FuncId → List FSp} (hT : ∀ f S, S ∈ tbl f → FOk P f S) {c : Call} (hf : ∀ i, i < stepM P tbl sl (.call c) → bl[f + i]? = some .hole) (h : Told f (stepC P tbl sl f (stepM P tbl sl (.call c)) c.callee c.args.toList c.argTypes.toList) bl bl' v) : EffH P n (.call c) ty sl bl bl' v := by
  obtain ⟨cl, args, ats⟩ := c
  cases cl with
  | value x =>
    have := tCall_ok (n := n) (ty := ty) (ats := ats) hT hf h
    simpa using this
  | invoke x name =>
    have := tInv_ok (n := n) (ty := ty) (ats := ats) hT hf h
    simpa using this
  | builtin b =>
    simp only [stepC] at h
    split at h
    · rename_i s x t t' ha ht
      have ha : args = #[s, x] := by rw [← Array.toArray_toList (xs := args), ha]
      have ht : ats = #[t, t'] := by rw [← Array.toArray_toList (xs := ats), ht]
      subst ha; subst ht
      split at h
      · exact tAppZ_ok (by have := hf 0 (by simp [stepM]); simpa using this) h
      · split at h
        · exact tAppV_ok h
        · exact tApp_ok (by have := hf 0 (by simp [stepM]); simpa using this) h
    · rename_i x t ha ht
      have ha : args = #[x] := by rw [← Array.toArray_toList (xs := args), ha]
      have ht : ats = #[t] := by rw [← Array.toArray_toList (xs := ats), ht]
      subst ha; subst ht
      exact tLen_ok h
    · rename_i x t ha ht
      have ha : args = #[x] := by rw [← Array.toArray_toList (xs := args), ha]
      have ht : ats = #[t] := by rw [← Array.toArray_toList (xs := ats), ht]
      subst ha; subst ht
      exact tCap_ok h
    · rename_i x t ha ht
      have ha : args = #[x] := by rw [← Array.toArray_toList (xs := args), ha]
      have ht : ats = #[t] := by rw [← Array.toArray_toList (xs := ats), ht]
      subst ha; subst ht
      exact tClear_ok h
    · rename_i x y t t' ha ht
      have ha : args = #[x, y] := by rw [← Array.toArray_toList (xs := args), ha]
      have ht : ats = #[t, t'] := by rw [← Array.toArray_toList (xs := ats), ht]
      subst ha; subst ht
      exact tCopy_ok h
    · rename_i x y ha _ _
      have ha : args = #[x, y] := by rw [← Array.toArray_toList (xs := args), ha]
      subst ha
      exact tMM_ok h
    · exact h.elim
theorem stepH_ok {tbl : FuncId → List FSp} (hT : ∀ f S, S ∈ tbl f → FOk P f S) {op : Op} (hf : ∀ i, i < stepM P tbl sl op → bl[f + i]? = some .hole) (h : Told f (stepH P tbl sl f op ty) bl bl' v) : EffH P n op ty sl bl bl' v := by
  have h1 : 0 < stepM P tbl sl op → bl[f]? = some .hole := fun h0 => by simpa using hf 0 h0
  cases op with
  | move x => exact (tMove_ok h).1
  | assign x => exact (tMove_ok h).2
  | pick c x y => exact tPick_ok h
  | alloc t => exact tAlloc_ok (h1 (by simp [stepM])) h
  | box t x => exact tBox_ok (h1 (by simp [stepM])) h
  | build t parts => simpa using tBuild_ok (n := n) (ty := ty) h
  | buildSlice t len parts => simpa using tLit_ok (n := n) (ty := ty) (h1 (by simp [stepM])) h
  | load t x => exact tLoad_ok h
  | store t x y => exact tStoreC_ok (fun rb c l r e => h1 (by simp [stepM, e])) h
  | nilCheck x => exact tNil_ok h
  | binOp op t x y u => exact tBin_ok h
  | unOp op t x => exact tUn_ok h
  | convert s d x => exact tText_ok h
  | makeFunc fn first captured => simpa using tFn_ok (n := n) (ty := ty) h
  | makeInterface t x => exact tIfc_ok h
  | makeSlice t x y => exact tMake_ok (h1 (by simp [stepM])) h
  | slice t x lo hi mx => cases mx with
    | none => exact tSlice_ok h
    | some _ => exact h.elim
  | fieldAddr t x i => exact tFieldA_ok h
  | field t x i => exact tField_ok h
  | indexAddr t x i => exact tIndexA_ok h
  | index t x i => exact tIndex_ok h
  | extract x i => exact tExtract_ok h
  | call c => exact stepC_ok hT hf h
  | _ => exact h.elim
end
abbrev Tbl := List (FuncId × FSp)
def lkT : Tbl → FuncId → List FSp
  | [], _ => []
  | (f, S) :: l, g => cond (Nat.beq f g) (S :: lkT l g) (lkT l g)
structure TOk (P : Program) (T : Tbl) : Prop where
  ok : ∀ f S, S ∈ lkT T f → FOk P f S
theorem TOk.nil {P : Program} : TOk P [] := ⟨fun f S h => by cases h⟩
theorem TOk.cons {P : Program} {T : Tbl} {f : FuncId} {S : FSp} (h : TOk P T) (k : FOk P f S) : TOk P ((f, S) :: T) := ⟨fun g S' hm => by
  unfold lkT at hm
  cases hb : Nat.beq f g with
  | true =>
    rw [hb] at hm
    have := Nat.eq_of_beq_eq_true hb
    subst this
    rcases List.mem_cons.1 hm with rfl | hm
    · exact k
    · exact h.ok _ _ hm
  | false => rw [hb] at hm; exact h.ok _ _ hm⟩
def stpT (P : Program) (T : Tbl) (h : TOk P T) : Stp P := ⟨stepH P (lkT T), stepM P (lkT T), fun hf hT => stepH_ok h.ok hf hT⟩
theorem FOk.run_eq {P : Program} {f : FuncId} {ps : Sch} {rs : List Sch} {r1 r2 : HT ps.tr → Option (ALT rs)} (h : FOk P f ⟨ps, rs, r1⟩) (e : ∀ t, r1 t = r2 t) : FOk P f ⟨ps, rs, r2⟩ := by
  have : r1 = r2 := funext e
  rwa [← this]
set_option maxRecDepth 100000
open Go.RowKit Go.Lib
def rI : List Sch := [⟨[(0, .v (.c (.i .i64)))], []⟩]
theorem FOk_int {P : Program} {f : FuncId} {ps : Sch} {run : HT ps.tr → Option Int}
    (h : ∀ t r st0, run t = some r → conT ps t = some st0 → st0.bl = [] ∧ ∀ g ρ own vs, Rl g ρ st0 own (argS 0 vs) → vs.length = ps.sl.length → inK .i64 r ∧ ∀ w, Calls P f vs.toArray w fun e w' => e = .returned (.int .i64 r) ∧ w' = w) : FOk P f ⟨ps, rI, run⟩ := by
  intro t r st0 hr hc g ρ own vs hR hl w hs
  obtain ⟨h0, h⟩ := h t r st0 hr hc
  obtain ⟨h1, h2⟩ := h g ρ own vs hR hl
  refine (h2 w).mono fun e w' ⟨he, hb⟩ => ⟨_, g, [], he, .refl g, ⟨by rw [hb]; exact hs.r, List.nodup_nil, fun k hk => (by cases hk), fun k hk => (by cases hk)⟩, ⟨[(0, vC (.int .i64 r))], []⟩, ρ, rfl, rfl, ⟨rfl, fun i bv k e => (by cases e), fun t sv e => ?_, hR.gi⟩, fun j hj => (by rw [h0] at hj; cases hj)⟩
  have e : cond (Nat.beq 0 t) (some (vC (.int .i64 r))) none = some sv := e
  obtain ⟨e1, e2⟩ := condS e
  injection e2 with e2; subst e2
  have := Nat.eq_of_beq_eq_true e1
  subst this
  exact ⟨_, rfl, rfl, h1⟩
theorem two {vs : List Value} (h : vs.length = 2) : ∃ a b, vs = [a, b] := by
  match vs, h with
  | [a, b], _ => exact ⟨a, b, rfl⟩
theorem indexByte_lt (l : List UInt8) (c : UInt8) : Lib.indexByte l c < (l.length : Int) ∨ Lib.indexByte l c = -1 := by
  induction l with
  | nil => exact .inr rfl
  | cons b l ih =>
    unfold Lib.indexByte
    have hl : ((b :: l).length : Int) = (l.length : Int) + 1 := by simp
    split
    · left; omega
    · split
      · exact .inr rfl
      · rename_i h1 h2
        rcases ih with h | h
        · left; omega
        · rw [h] at h2; exact absurd rfl h2
def ixB (c : UInt8) : List UInt8 → Int → Int
  | [], _ => -1
  | b :: l, k => cond (b == c) k (ixB c l (k + 1))
theorem ixB_eq (c : UInt8) : ∀ (l : List UInt8) (k : Int), 0 ≤ k → ixB c l k = (if Lib.indexByte l c = -1 then -1 else Lib.indexByte l c + k)
  | [], k, _ => rfl
  | b :: l, k, hk => by
    have hge := Lib.indexByte_ge l c
    unfold ixB Lib.indexByte
    cases e : (b == c) with
    | true => simp
    | false =>
      simp only [cond_false, Bool.false_eq_true, if_false]
      rw [ixB_eq c l (k + 1) (by omega)]
      by_cases h : Lib.indexByte l c = -1
      · rw [if_pos h, h]; rfl
      · have : (Lib.indexByte l c == -1) = false := by simpa using h
        rw [if_neg h, this]
        simp only [Bool.false_eq_true, if_false]
        rw [if_neg (by omega)]; omega
def p55 : Sch := ⟨[(0, .v (.c (.s))), (1, .v (.c (.i .u8)))], []⟩
def o55 (s : List UInt8) (c : Int) : Option Int := some (ixB (u8 c) s 0)
theorem fo55 : FOk Tryz.prog 55 ⟨p55, rI, fun t => o55 t.1 t.2⟩ := FOk_int fun (t : List UInt8 × Int) r st0 hr hc => by
  obtain ⟨s, c⟩ := t
  have hc : some (⟨[(0, vC (.str s)), (1, vC (.int .u8 c))], []⟩ : HSt) = some st0 := hc
  injection hc with hc; subst hc
  refine ⟨rfl, fun g ρ own vs hR hl => ?_⟩
  obtain ⟨a, b, rfl⟩ := two hl
  obtain ⟨v1, h1, h2⟩ := hR.slot 0 _ rfl
  injection h1 with h1; subst h1
  obtain ⟨v2, h3, h4⟩ := hR.slot 1 _ rfl
  injection h3 with h3; subst h3
  obtain ⟨h2, hls⟩ : a = .string (mkS s) ∧ s.length ≤ 140737488355328 := h2
  obtain ⟨h4, _⟩ : b = .int .u8 c ∧ inK .u8 c := h4
  subst h2; subst h4
  have hr : some (ixB (u8 c) s 0) = some r := hr
  injection hr with hr
  have hr : r = Lib.indexByte s (u8 c) := by
    rw [← hr, ixB_eq _ _ _ (Int.le_refl 0)]
    split
    · rename_i h; exact h.symm
    · omega
  subst hr
  have hge := Lib.indexByte_ge s (u8 c)
  have hlt := indexByte_lt s (u8 c)
  refine ⟨by simp [inK, IntKind.min, IntKind.max, IntKind.signed, IntKind.bits]; omega, fun w => ?_⟩
  have hdata : (mkS s).data.toList = s := by simp [mkS]
  go_enter Tryz.func55, (show (Tryz.f55).ntmps = 8 from rfl)
  go_wp2
  rw [run_callFunc_extern Tryz.func76 (by kernel_rfl) (by kernel_rfl) (by kernel_rfl) (e := Extern.BytealgIndexByte.indexByte) (by kernel_rfl), Lib.run_indexByteString]
  simp only [Result.andThen]
  rw [Oper.upon_value]
  go_wp2
  go_ret
  exact ⟨rfl, rfl⟩
abbrev T0 : Tbl := []
theorem K0 : TOk Tryz.prog T0 := .nil
noncomputable section
def T1 : Tbl := (55, ⟨p55, rI, fun t => (o55 t.1 t.2)⟩) :: T0
theorem K1 : TOk Tryz.prog T1 := .cons K0 fo55
def o89_s0 : Sch := ⟨[(0, .v (.c (.s))), (1, .v (.c (.s))), (5, .v (.c (.i .i64))), (16, .v (.c (.b)))], []⟩
def p89 : Sch := ⟨[(0, .v (.c (.s))), (1, .v (.c (.s)))], []⟩
def r89 : List Sch := [⟨[(0, .v (.c (.i .i64)))], []⟩]
def o89 (a0 : List UInt8) (a1 : List UInt8) : Option Int :=
 (bd (α := ((List UInt8 × List UInt8) × Int × Bool)) (cnd (((a1.length : Nat) : Int) == (0 : Int)) (some ((a0, a1), ((a1.length : Nat) : Int), true)) (some ((a0, a1), ((a1.length : Nat) : Int), (a1 == a0)))) (fun v1 => (cnd v1.2.2 (some (0 : Int)) (cnd (v1.2.1 == (1 : Int)) (gd (decide ((0 : Int) ≤ (0 : Int) ∧ (0 : Int) < ((v1.1.2.length : Nat) : Int))) (bd (α := Int) (o55 v1.1.1 (((List.getD v1.1.2 (0 : Int).toNat 0).toNat : Nat) : Int)) (fun v2 => (some v2)))) (cnd (decide (v1.2.1 ≥ ((v1.1.1.length : Nat) : Int))) (some (-1 : Int)) none)))))
def h89 : HC := (.s .d (.s .d (.s (.b (.s (.j false [o89_s0] .d) (.c .d (.s .d (.c .d (.s .d (.c .d .cut))))))) .d)))
theorem e89 (t : List UInt8 × List UInt8) : evF (stpT Tryz.prog T1 K1) Tryz.f89 p89 r89 h89 t = (o89 t.1 t.2) := by kernel_rfl
theorem fo89 : FOk Tryz.prog 89 ⟨p89, r89, fun t => (o89 t.1 t.2)⟩ := FOk.run_eq (evF_ok (h := h89) (by kernel_rfl) (by kernel_rfl) (by kernel_rfl)) e89
def T2 : Tbl := (89, ⟨p89, r89, fun t => (o89 t.1 t.2)⟩) :: T1
theorem K2 : TOk Tryz.prog T2 := .cons K1 fo89
def p75 : Sch := ⟨[(0, .v (.c (.s))), (1, .v (.c (.s)))], []⟩
def r75 : List Sch := [⟨[(0, .tup [.c (.s), .c (.s), .c (.b)])], []⟩]
def o75 (a0 : List UInt8) (a1 : List UInt8) : Option (List UInt8 × List UInt8 × Bool) :=
 (bd (α := Int) (o89 a0 a1) (fun v1 => (cnd (decide (v1 ≥ (0 : Int))) (gd (decide ((0 : Int) ≤ v1 ∧ v1 ≤ ((a0.length : Nat) : Int))) (gd (decide ((0 : Int) ≤ (IntKind.wrap .i64 (v1 + ((a1.length : Nat) : Int))) ∧ (IntKind.wrap .i64 (v1 + ((a1.length : Nat) : Int))) ≤ ((a0.length : Nat) : Int))) (some ((List.take v1.toNat a0), (List.drop (IntKind.wrap .i64 (v1 + ((a1.length : Nat) : Int))).toNat a0), true)))) (some (a0, ([] : List UInt8), false)))))
theorem e75 (t : List UInt8 × List UInt8) : evF (stpT Tryz.prog T2 K2) Tryz.f75 p75 r75 .d t = (o75 t.1 t.2) := by kernel_rfl
theorem fo75 : FOk Tryz.prog 75 ⟨p75, r75, fun t => (o75 t.1 t.2)⟩ := FOk.run_eq (evF_ok (h := .d) (by kernel_rfl) (by kernel_rfl) (by kernel_rfl)) e75
def T3 : Tbl := (75, ⟨p75, r75, fun t => (o75 t.1 t.2)⟩) :: T2
theorem K3 : TOk Tryz.prog T3 := .cons K2 fo75
def p50 : Sch := ⟨[(0, .v (.c (.s))), (1, .v (.c (.s)))], []⟩
def r50 : List Sch := [⟨[(0, .tup [.c (.s), .c (.s), .c (.b)])], []⟩]
def o50 (a0 : List UInt8) (a1 : List UInt8) : Option (List UInt8 × List UInt8 × Bool) :=
 (bd (α := (List UInt8 × List UInt8 × Bool)) (o75 a0 a1) (fun v1 => (some v1)))
theorem e50 (t : List UInt8 × List UInt8) : evF (stpT Tryz.prog T3 K3) Tryz.f50 p50 r50 .d t = (o50 t.1 t.2) := by kernel_rfl
theorem fo50 : FOk Tryz.prog 50 ⟨p50, r50, fun t => (o50 t.1 t.2)⟩ := FOk.run_eq (evF_ok (h := .d) (by kernel_rfl) (by kernel_rfl) (by kernel_rfl)) e50
def T4 : Tbl := (50, ⟨p50, r50, fun t => (o50 t.1 t.2)⟩) :: T3
theorem K4 : TOk Tryz.prog T4 := .cons K3 fo50
def o51_s0 : Sch := ⟨[(0, .v (.c (.s))), (24, .v (.c (.b)))], []⟩
def o51_s1 : Sch := ⟨[(0, .v (.c (.s))), (26, .v (.c (.i .i64))), (27, .v (.c (.i .i64))), (51, .v (.c (.b)))], []⟩
def o51_s2 : Sch := ⟨[(0, .v (.c (.s))), (26, .v (.c (.i .i64))), (27, .v (.c (.i .i64)))], []⟩
def p51 : Sch := ⟨[(0, .v (.c (.s))), (1, .v (.c (.i .i64)))], []⟩
def r51 : List Sch := [⟨[(0, .v (.c (.b)))], []⟩]
def o51 (a0 : List UInt8) (a1 : Int) : Option Bool :=
 (bd (α := (List UInt8 × Bool)) (cnd (((a0.length : Nat) : Int) == (0 : Int)) (some (a0, true)) (cnd (decide (((a0.length : Nat) : Int) > a1)) (some (a0, true)) (gd (decide ((0 : Int) ≤ (0 : Int) ∧ (0 : Int) < ((a0.length : Nat) : Int))) (cnd (decide ((((List.getD a0 (0 : Int).toNat 0).toNat : Nat) : Int) < (65 : Int))) (some (a0, true)) (gd (decide ((0 : Int) ≤ (0 : Int) ∧ (0 : Int) < ((a0.length : Nat) : Int))) (some (a0, (decide ((((List.getD a0 (0 : Int).toNat 0).toNat : Nat) : Int) > (90 : Int)))))))))) (fun v1 => (cnd v1.2 (some false) (loopO (σ := List UInt8 × Int × Int) fuelN (fun (v3 : List UInt8 × Int × Int) => (cnd (decide (v3.2.2 < v3.2.1)) (bd (α := ((List UInt8 × Int) × Int × Bool)) (gd (decide ((0 : Int) ≤ v3.2.2 ∧ v3.2.2 < ((v3.1.length : Nat) : Int))) (cnd (decide ((((List.getD v3.1 v3.2.2.toNat 0).toNat : Nat) : Int) < (65 : Int))) (gd (decide ((0 : Int) ≤ v3.2.2 ∧ v3.2.2 < ((v3.1.length : Nat) : Int))) (cnd (decide ((((List.getD v3.1 v3.2.2.toNat 0).toNat : Nat) : Int) < (48 : Int))) (some ((v3.1, v3.2.1), v3.2.2, true)) (gd (decide ((0 : Int) ≤ v3.2.2 ∧ v3.2.2 < ((v3.1.length : Nat) : Int))) (some ((v3.1, v3.2.1), v3.2.2, (decide ((((List.getD v3.1 v3.2.2.toNat 0).toNat : Nat) : Int) > (57 : Int)))))))) (gd (decide ((0 : Int) ≤ v3.2.2 ∧ v3.2.2 < ((v3.1.length : Nat) : Int))) (cnd (decide ((((List.getD v3.1 v3.2.2.toNat 0).toNat : Nat) : Int) > (90 : Int))) (gd (decide ((0 : Int) ≤ v3.2.2 ∧ v3.2.2 < ((v3.1.length : Nat) : Int))) (cnd (decide ((((List.getD v3.1 v3.2.2.toNat 0).toNat : Nat) : Int) < (48 : Int))) (some ((v3.1, v3.2.1), v3.2.2, true)) (gd (decide ((0 : Int) ≤ v3.2.2 ∧ v3.2.2 < ((v3.1.length : Nat) : Int))) (some ((v3.1, v3.2.1), v3.2.2, (decide ((((List.getD v3.1 v3.2.2.toNat 0).toNat : Nat) : Int) > (57 : Int)))))))) (some ((v3.1, v3.2.1), v3.2.2, false)))))) (fun v4 => (cnd v4.2.2 (dnO (some false)) (some (Ctl.go (v4.1.1, v4.1.2, (IntKind.wrap .i64 (v4.2.1 + (1 : Int))))))))) (dnO (some true)))) (v1.1, ((v1.1.length : Nat) : Int), (0 : Int))))))
def h51 : HC := (.s .d (.s (.s (.j false [o51_s0] .d) .d) (.s (.s .d (.b (.l [o51_s2] (.s .d (.s .d (.s (.b (.s .d (.s (.j false [o51_s1] .d) .d))) .d)))))) .d)))
theorem e51 (t : List UInt8 × Int) : evF (stpT Tryz.prog T4 K4) Tryz.f51 p51 r51 h51 t = (o51 t.1 t.2) := by kernel_rfl
theorem fo51 : FOk Tryz.prog 51 ⟨p51, r51, fun t => (o51 t.1 t.2)⟩ := FOk.run_eq (evF_ok (h := h51) (by kernel_rfl) (by kernel_rfl) (by kernel_rfl)) e51
def T5 : Tbl := (51, ⟨p51, r51, fun t => (o51 t.1 t.2)⟩) :: T4
theorem K5 : TOk Tryz.prog T5 := .cons K4 fo51
def o27_s0 : Sch := ⟨[(6, .v (.c (.b)))], []⟩
def p27 : Sch := ⟨[(0, .v (.c (.s))), (1, .v (.c (.s))), (2, .v (.c (.i .i64)))], []⟩
def r27 : List Sch := [⟨[(0, .v (.c (.b)))], []⟩]
def o27 (a0 : List UInt8) (a1 : List UInt8) (a2 : Int) : Option Bool :=
 (bd (α := (List UInt8 × List UInt8 × Bool)) (o50 a0 a1) (fun v1 => (bd (α := Bool) (bd (α := Bool) (o51 v1.1 a2) (fun v2 => (cnd v2 (cnd (!v1.2.2) (some true) (bd (α := Bool) (o51 v1.2.1 a2) (fun v3 => (some v3)))) (some false)))) (fun v4 => (some v4)))))
def h27 : HC := (.s .d (.s .d (.s (.j false [o27_s0] .d) .d)))
theorem e27 (t : List UInt8 × List UInt8 × Int) : evF (stpT Tryz.prog T5 K5) Tryz.f27 p27 r27 h27 t = (o27 t.1 t.2.1 t.2.2) := by kernel_rfl
theorem fo27 : FOk Tryz.prog 27 ⟨p27, r27, fun t => (o27 t.1 t.2.1 t.2.2)⟩ := FOk.run_eq (evF_ok (h := h27) (by kernel_rfl) (by kernel_rfl) (by kernel_rfl)) e27
def T6 : Tbl := (27, ⟨p27, r27, fun t => (o27 t.1 t.2.1 t.2.2)⟩) :: T5
theorem K6 : TOk Tryz.prog T6 := .cons K5 fo27
def o14_s0 : Sch := ⟨[(2, .v (.c (.b)))], []⟩
def p14 : Sch := ⟨[(0, .v (.c (.s)))], []⟩
def r14 : List Sch := [⟨[(0, .v (.c (.b)))], []⟩]
def o14 (a0 : List UInt8) : Option Bool :=
 (bd (α := Bool) (cnd (a0 == ([] : List UInt8)) (some true) (bd (α := Bool) (o27 a0 ([47] : List UInt8) (6 : Int)) (fun v1 => (some v1)))) (fun v2 => (some v2)))
theorem e14 (t : List UInt8) : evF (stpT Tryz.prog T6 K6) Tryz.f14 p14 r14 (.s .d (.s (.j false [o14_s0] .d) .d)) t = (o14 t) := by kernel_rfl
theorem fo14 : FOk Tryz.prog 14 ⟨p14, r14, fun t => (o14 t)⟩ := FOk.run_eq (evF_ok (h := (.s .d (.s (.j false [o14_s0] .d) .d))) (by kernel_rfl) (by kernel_rfl) (by kernel_rfl)) e14
def T7 : Tbl := (14, ⟨p14, r14, fun t => (o14 t)⟩) :: T6
theorem K7 : TOk Tryz.prog T7 := .cons K6 fo14
def o52_s0 : Sch := ⟨[(2, .v (.c (.b)))], []⟩
def p52 : Sch := ⟨[(0, .v (.c (.i .u8)))], []⟩
def r52 : List Sch := [⟨[(0, .v (.c (.b)))], []⟩]
def o52 (a0 : Int) : Option Bool :=
 (bd (α := Bool) (cnd (decide (a0 ≥ (1 : Int))) (some (decide (a0 ≤ (17 : Int)))) (some false)) (fun v1 => (some v1)))
theorem e52 (t : Int) : evF (stpT Tryz.prog T7 K7) Tryz.f52 p52 r52 (.s .d (.s (.j false [o52_s0] .d) .d)) t = (o52 t) := by kernel_rfl
theorem fo52 : FOk Tryz.prog 52 ⟨p52, r52, fun t => (o52 t)⟩ := FOk.run_eq (evF_ok (h := (.s .d (.s (.j false [o52_s0] .d) .d))) (by kernel_rfl) (by kernel_rfl) (by kernel_rfl)) e52
def T8 : Tbl := (52, ⟨p52, r52, fun t => (o52 t)⟩) :: T7
theorem K8 : TOk Tryz.prog T8 := .cons K7 fo52
def o77_s0 : Sch := ⟨[(0, .v (.c (.s))), (8, .v (.c (.i .i64))), (9, .v (.c (.i .i64))), (33, .v (.c (.b)))], []⟩
def o77_s1 : Sch := ⟨[(0, .v (.c (.s))), (8, .v (.c (.i .i64))), (9, .v (.c (.i .i64)))], []⟩
def p77 : Sch := ⟨[(0, .v (.c (.s)))], []⟩
def r77 : List Sch := [⟨[(0, .v (.c (.b)))], []⟩]
def o77 (a0 : List UInt8) : Option Bool :=
 (cnd (((a0.length : Nat) : Int) != (2 : Int)) (some false) (loopO (σ := List UInt8 × Int × Int) fuelN (fun (v2 : List UInt8 × Int × Int) => (cnd (decide (v2.2.2 < v2.2.1)) (bd (α := ((List UInt8 × Int) × Int × Bool)) (gd (decide ((0 : Int) ≤ v2.2.2 ∧ v2.2.2 < ((v2.1.length : Nat) : Int))) (cnd (decide ((((List.getD v2.1 v2.2.2.toNat 0).toNat : Nat) : Int) < (65 : Int))) (gd (decide ((0 : Int) ≤ v2.2.2 ∧ v2.2.2 < ((v2.1.length : Nat) : Int))) (cnd (decide ((((List.getD v2.1 v2.2.2.toNat 0).toNat : Nat) : Int) < (48 : Int))) (some ((v2.1, v2.2.1), v2.2.2, true)) (gd (decide ((0 : Int) ≤ v2.2.2 ∧ v2.2.2 < ((v2.1.length : Nat) : Int))) (some ((v2.1, v2.2.1), v2.2.2, (decide ((((List.getD v2.1 v2.2.2.toNat 0).toNat : Nat) : Int) > (57 : Int)))))))) (gd (decide ((0 : Int) ≤ v2.2.2 ∧ v2.2.2 < ((v2.1.length : Nat) : Int))) (cnd (decide ((((List.getD v2.1 v2.2.2.toNat 0).toNat : Nat) : Int) > (90 : Int))) (gd (decide ((0 : Int) ≤ v2.2.2 ∧ v2.2.2 < ((v2.1.length : Nat) : Int))) (cnd (decide ((((List.getD v2.1 v2.2.2.toNat 0).toNat : Nat) : Int) < (48 : Int))) (some ((v2.1, v2.2.1), v2.2.2, true)) (gd (decide ((0 : Int) ≤ v2.2.2 ∧ v2.2.2 < ((v2.1.length : Nat) : Int))) (some ((v2.1, v2.2.1), v2.2.2, (decide ((((List.getD v2.1 v2.2.2.toNat 0).toNat : Nat) : Int) > (57 : Int)))))))) (some ((v2.1, v2.2.1), v2.2.2, false)))))) (fun v3 => (cnd v3.2.2 (dnO (some false)) (some (Ctl.go (v3.1.1, v3.1.2, (IntKind.wrap .i64 (v3.2.1 + (1 : Int))))))))) (dnO (some true)))) (a0, ((a0.length : Nat) : Int), (0 : Int))))
def h77 : HC := (.s .d (.s .d (.s (.s .d (.b (.l [o77_s1] (.s .d (.s .d (.s (.b (.s .d (.s (.j false [o77_s0] .d) .d))) .d)))))) .d)))
theorem e77 (t : List UInt8) : evF (stpT Tryz.prog T8 K8) Tryz.f77 p77 r77 h77 t = (o77 t) := by kernel_rfl
theorem fo77 : FOk Tryz.prog 77 ⟨p77, r77, fun t => (o77 t)⟩ := FOk.run_eq (evF_ok (h := h77) (by kernel_rfl) (by kernel_rfl) (by kernel_rfl)) e77
def T9 : Tbl := (77, ⟨p77, r77, fun t => (o77 t)⟩) :: T8
theorem K9 : TOk Tryz.prog T9 := .cons K8 fo77
def Sse68d1e : SSh := .tup [.c (.s), .c (.s), .c (.i .i64)]
def o57_s0 : Sch := ⟨[(2, .v (.c (.s))), (3, .v (.c (.s))), (26, .v (.c (.b)))], []⟩
def p57 : Sch := ⟨[(0, .v (.c (.s)))], []⟩
def r57 : List Sch := [⟨[(0, Sse68d1e)], []⟩]
def o57 (a0 : List UInt8) : Option (List UInt8 × List UInt8 × Int) :=
 (bd (α := (List UInt8 × List UInt8 × Bool)) (o50 a0 ([47] : List UInt8)) (fun v1 => (cnd (!v1.2.2) (some (([] : List UInt8), ([] : List UInt8), (4 : Int))) (bd (α := (List UInt8 × List UInt8 × Bool)) (bd (α := Bool) (o51 v1.1 (6 : Int)) (fun v2 => (cnd (!v2) (some (v1.1, v1.2.1, true)) (bd (α := Bool) (o51 v1.2.1 (6 : Int)) (fun v3 => (cnd (!v3) (bd (α := Bool) (o77 v1.2.1) (fun v4 => (some (v1.1, v1.2.1, (!v4))))) (some (v1.1, v1.2.1, false)))))))) (fun v5 => (cnd v5.2.2 (some (([] : List UInt8), ([] : List UInt8), (5 : Int))) (some (v5.1, v5.2.1, (0 : Int)))))))))
def h57 : HC := (.s .d (.s .d (.s .d (.s (.s (.j false [o57_s0] .d) .d) .d))))
theorem e57 (t : List UInt8) : evF (stpT Tryz.prog T9 K9) Tryz.f57 p57 r57 h57 t = (o57 t) := by kernel_rfl
theorem fo57 : FOk Tryz.prog 57 ⟨p57, r57, fun t => (o57 t)⟩ := FOk.run_eq (evF_ok (h := h57) (by kernel_rfl) (by kernel_rfl) (by kernel_rfl)) e57
def T10 : Tbl := (57, ⟨p57, r57, fun t => (o57 t)⟩) :: T9
theorem K10 : TOk Tryz.prog T10 := .cons K9 fo57
def p53 : Sch := ⟨[(0, .v (.c (.s))), (1, .v (.c (.b)))], []⟩
def r53 : List Sch := [⟨[(0, .v (.c (.i .i64)))], []⟩]
def o53 (a0 : List UInt8) (a1 : Bool) : Option Int :=
 (cnd a1 (bd (α := (List UInt8 × List UInt8 × Int)) (o57 a0) (fun v1 => (cnd (v1.2.2 != (0 : Int)) (some (5 : Int)) (some (0 : Int))))) (cnd (!(a0 == ([] : List UInt8))) (some (1 : Int)) (some (0 : Int))))
theorem e53 (t : List UInt8 × Bool) : evF (stpT Tryz.prog T10 K10) Tryz.f53 p53 r53 .d t = (o53 t.1 t.2) := by kernel_rfl
theorem fo53 : FOk Tryz.prog 53 ⟨p53, r53, fun t => (o53 t.1 t.2)⟩ := FOk.run_eq (evF_ok (h := .d) (by kernel_rfl) (by kernel_rfl) (by kernel_rfl)) e53
def T11 : Tbl := (53, ⟨p53, r53, fun t => (o53 t.1 t.2)⟩) :: T10
theorem K11 : TOk Tryz.prog T11 := .cons K10 fo53
def o54_s0 : Sch := ⟨[(0, .v (.c (.i .i64))), (1, .v (.c (.b))), (9, .v (.c (.b)))], []⟩
def o54_s1 : Sch := ⟨[(21, .v (.c (.b)))], []⟩
def p54 : Sch := ⟨[(0, .v (.c (.i .i64))), (1, .v (.c (.b))), (2, .v (.c (.i .i64))), (3, .v (.c (.i .i64)))], []⟩
def r54 : List Sch := [⟨[(0, .v (.c (.i .i64)))], []⟩]
def o54 (a0 : Int) (a1 : Bool) (a2 : Int) (a3 : Int) : Option Int :=
 (bd (α := (Int × Bool × Bool)) (cnd a1 (cnd (decide (a0 < a2)) (some (a0, a1, true)) (some (a0, a1, (decide (a0 > a3))))) (some (a0, a1, false))) (fun v1 => (cnd v1.2.2 (some (2 : Int)) (bd (α := Bool) (cnd (!v1.2.1) (some (v1.1 != (0 : Int))) (some false)) (fun v2 => (cnd v2 (some (1 : Int)) (some (0 : Int))))))))
def h54 : HC := (.s .d (.s (.b (.s (.j false [o54_s0] .d) (.c .d (.s (.j false [o54_s1] .d) .d)))) .d))
theorem e54 (t : (Int × Bool) × Int × Int) : evF (stpT Tryz.prog T11 K11) Tryz.f54 p54 r54 h54 t = (o54 t.1.1 t.1.2 t.2.1 t.2.2) := by kernel_rfl
theorem fo54 : FOk Tryz.prog 54 ⟨p54, r54, fun t => (o54 t.1.1 t.1.2 t.2.1 t.2.2)⟩ := FOk.run_eq (evF_ok (h := h54) (by kernel_rfl) (by kernel_rfl) (by kernel_rfl)) e54
def T12 : Tbl := (54, ⟨p54, r54, fun t => (o54 t.1.1 t.1.2 t.2.1 t.2.2)⟩) :: T11
theorem K12 : TOk Tryz.prog T12 := .cons K11 fo54
def Bsfd353c : BSh := .cells 59 [.i .u8, .s, .s, .i .u8, .b, .i .i64, .i .i64, .i .i64, .i .i64, .i .i64, .i .i64, .i .i64, .i .i64]
def Ss3e3d2b : SSh := .v (.agg [.i .u8, .s, .s, .i .u8, .b, .i .i64, .i .i64, .i .i64, .i .i64, .i .i64, .i .i64, .i .i64, .i .i64])
abbrev Ty22ecb9 : Type := ((Int × List UInt8 × List UInt8) × Int × Bool × Int) × (Int × Int × Int) × (Int × Int) × Int × Int
def o28_s0 : Sch := ⟨[(1, .v (.c (.ptr 0 0))), (3, .v (.c (.i .u16))), (47, .v (.c (.b)))], [Bsfd353c]⟩
def o28_s1 : Sch := ⟨[(1, .v (.c (.ptr 0 0))), (3, .v (.c (.i .u16))), (57, .v (.c (.b)))], [Bsfd353c]⟩
def o28_s2 : Sch := ⟨[(1, .v (.c (.ptr 0 0))), (10, .v (.c (.b)))], [Bsfd353c]⟩
def o28_s3 : Sch := ⟨[(1, .v (.c (.ptr 0 0))), (10, .v (.c (.b))), (107, .v (.c (.b)))], [Bsfd353c]⟩
def o28_s4 : Sch := ⟨[(1, .v (.c (.ptr 0 0))), (127, .v (.c (.b)))], [Bsfd353c]⟩
def o28_s5 : Sch := ⟨[(135, .v (.c (.b)))], []⟩
def o28_s6 : Sch := ⟨[(1, .v (.c (.ptr 0 0))), (3, .v (.c (.i .u16)))], [Bsfd353c]⟩
def p28 : Sch := ⟨[(0, Ss3e3d2b)], []⟩
def r28 : List Sch := [⟨[(0, .v (.c (.i .i64)))], []⟩]
def o28 (a0 : Ty22ecb9) : Option Int :=
 (bd (α := Bool) (o52 a0.1.1.1) (fun v1 => (cnd (!v1) (some (17 : Int)) (gd (decide ((0 : Int) ≤ a0.1.1.1 ∧ a0.1.1.1 < (18 : Int))) (bd (α := Int) (o53 a0.1.1.2.1 ((landK .u16 (List.getD gl1 a0.1.1.1.toNat (0 : Int)) (1 : Int)) != (0 : Int))) (fun v2 => (cnd (v2 != (0 : Int)) (some v2) (bd (α := Int) (o53 a0.1.1.2.2 ((landK .u16 (List.getD gl1 a0.1.1.1.toNat (0 : Int)) (2 : Int)) != (0 : Int))) (fun v3 => (cnd (v3 != (0 : Int)) (some v3) (jd (α := (Int × Ty22ecb9)) (cnd ((landK .u16 (List.getD gl1 a0.1.1.1.toNat (0 : Int)) (4 : Int)) != (0 : Int)) (bd (α := (Int × Bool × Ty22ecb9)) (cnd (a0.1.2.1 != (1 : Int)) (some ((List.getD gl1 a0.1.1.1.toNat (0 : Int)), (a0.1.2.1 != (2 : Int)), a0)) (some ((List.getD gl1 a0.1.1.1.toNat (0 : Int)), false, a0))) (fun v4 => (cnd v4.2.1 (dnO (some (1 : Int))) (some (Ctl.go (v4.1, v4.2.2)))))) (cnd (a0.1.2.1 != (0 : Int)) (dnO (some (1 : Int))) (some (Ctl.go ((List.getD gl1 a0.1.1.1.toNat (0 : Int)), a0))))) (fun v5 => (bd (α := (Int × Bool × Ty22ecb9)) (cnd v5.2.1.2.2.1 (some (v5.1, ((landK .u16 v5.1 (8 : Int)) == (0 : Int)), v5.2)) (some (v5.1, false, v5.2))) (fun v6 => (cnd v6.2.1 (some (1 : Int)) (bd (α := Int) (o54 v6.2.2.1.2.2.2 ((landK .u16 v6.1 (16 : Int)) != (0 : Int)) (0 : Int) (129599999 : Int)) (fun v7 => (cnd (v7 != (0 : Int)) (some v7) (bd (α := Int) (o54 v6.2.2.2.1.1 ((landK .u16 v6.1 (32 : Int)) != (0 : Int)) (1 : Int) (2000000 : Int)) (fun v8 => (cnd (v8 != (0 : Int)) (some v8) (bd (α := Int) (o54 v6.2.2.2.1.2.1 ((landK .u16 v6.1 (64 : Int)) != (0 : Int)) (1 : Int) (2000000 : Int)) (fun v9 => (cnd (v9 != (0 : Int)) (some v9) (bd (α := Int) (o54 v6.2.2.2.1.2.2 ((landK .u16 v6.1 (128 : Int)) != (0 : Int)) (0 : Int) (129599999 : Int)) (fun v10 => (cnd (v10 != (0 : Int)) (some v10) (bd (α := (Bool × Ty22ecb9)) (cnd (v6.2.2.1.1.1 == (7 : Int)) (some (true, v6.2.2)) (cnd (v6.2.2.1.1.1 == (11 : Int)) (some (true, v6.2.2)) (some ((v6.2.2.1.1.1 == (14 : Int)), v6.2.2)))) (fun v11 => (bd (α := (Bool × Bool × Ty22ecb9)) (cnd (decide (v11.2.2.2.1.1 < (-200000 : Int))) (some (v11.1, true, v11.2)) (cnd (decide (v11.2.2.2.1.1 > v11.2.2.2.1.2)) (some (v11.1, true, v11.2)) (some (v11.1, (decide (v11.2.2.2.1.2 > (6000000 : Int))), v11.2)))) (fun v12 => (cnd v12.2.1 (some (2 : Int)) (bd (α := (Bool × Ty22ecb9)) (cnd v12.1 (some ((v12.2.2.2.2.1.1 == (-200000 : Int)), v12.2.2)) (some (false, v12.2.2))) (fun v13 => (cnd v13.1 (some (2 : Int)) (bd (α := Bool) (cnd (decide (v13.2.2.2.2.1 < (0 : Int))) (some true) (cnd (decide (v13.2.2.2.2.1 > (1000 : Int))) (some true) (cnd (decide (v13.2.2.2.2.2 < (0 : Int))) (some true) (some (decide (v13.2.2.2.2.2 > (120000 : Int))))))) (fun v14 => (cnd v14 (some (2 : Int)) (some (0 : Int))))))))))))))))))))))))))))))))))))))))
def h28 : HC := (.s .d (.s .d (.s .d (.s .d (.s .d (.j true [o28_s6] (.s (.s .d (.c (.s (.j false [o28_s0] .d) .d) .d)) (.s (.s (.j false [o28_s1] .d) .d) (.s .d (.s .d (.s .d (.s .d (.s (.j false [o28_s2] .d) (.s (.b (.s (.j false [o28_s3] .d) (.c .d (.s (.j false [o28_s4] .d) (.c .d (.s (.j false [o28_s5] .d) .d)))))) .d))))))))))))))
theorem e28 (t : Ty22ecb9) : evF (stpT Tryz.prog T12 K12) Tryz.f28 p28 r28 h28 t = (o28 t) := by kernel_rfl
theorem fo28 : FOk Tryz.prog 28 ⟨p28, r28, fun t => (o28 t)⟩ := FOk.run_eq (evF_ok (h := h28) (by kernel_rfl) (by kernel_rfl) (by kernel_rfl)) e28
def T13 : Tbl := (28, ⟨p28, r28, fun t => (o28 t)⟩) :: T12
theorem K13 : TOk Tryz.prog T13 := .cons K12 fo28
def o29_s0 : Sch := ⟨[(2, .v (.c (.b)))], []⟩
def p29 : Sch := ⟨[(0, .v (.c (.i .u8)))], []⟩
def r29 : List Sch := [⟨[(0, .v (.c (.b)))], []⟩]
def o29 (a0 : Int) : Option Bool :=
 (bd (α := Bool) (cnd (decide (a0 ≥ (1 : Int))) (some (decide (a0 ≤ (5 : Int)))) (some false)) (fun v1 => (some v1)))
theorem e29 (t : Int) : evF (stpT Tryz.prog T13 K13) Tryz.f29 p29 r29 (.s .d (.s (.j false [o29_s0] .d) .d)) t = (o29 t) := by kernel_rfl
theorem fo29 : FOk Tryz.prog 29 ⟨p29, r29, fun t => (o29 t)⟩ := FOk.run_eq (evF_ok (h := (.s .d (.s (.j false [o29_s0] .d) .d))) (by kernel_rfl) (by kernel_rfl) (by kernel_rfl)) e29
def T14 : Tbl := (29, ⟨p29, r29, fun t => (o29 t)⟩) :: T13
theorem K14 : TOk Tryz.prog T14 := .cons K13 fo29
def o30_s0 : Sch := ⟨[(2, .v (.c (.b)))], []⟩
def p30 : Sch := ⟨[(0, .v (.c (.s)))], []⟩
def r30 : List Sch := [⟨[(0, .v (.c (.b)))], []⟩]
def o30 (a0 : List UInt8) : Option Bool :=
 (bd (α := Bool) (cnd (a0 == ([] : List UInt8)) (some true) (bd (α := Bool) (o27 a0 ([46] : List UInt8) (8 : Int)) (fun v1 => (some v1)))) (fun v2 => (some v2)))
theorem e30 (t : List UInt8) : evF (stpT Tryz.prog T14 K14) Tryz.f30 p30 r30 (.s .d (.s (.j false [o30_s0] .d) .d)) t = (o30 t) := by kernel_rfl
theorem fo30 : FOk Tryz.prog 30 ⟨p30, r30, fun t => (o30 t)⟩ := FOk.run_eq (evF_ok (h := (.s .d (.s (.j false [o30_s0] .d) .d))) (by kernel_rfl) (by kernel_rfl) (by kernel_rfl)) e30
def T15 : Tbl := (30, ⟨p30, r30, fun t => (o30 t)⟩) :: T14
theorem K15 : TOk Tryz.prog T15 := .cons K14 fo30
def o31_s0 : Sch := ⟨[(2, .v (.c (.b)))], []⟩
def p31 : Sch := ⟨[(0, .v (.agg [.i .i64, .i .i64]))], []⟩
def r31 : List Sch := [⟨[(0, .v (.c (.b)))], []⟩]
def o31 (a0 : Int × Int) : Option Bool :=
 (bd (α := Bool) (cnd (decide (a0.1 ≥ (-2000000 : Int))) (cnd (decide (a0.1 ≤ (2000000 : Int))) (cnd (decide (a0.2 ≥ (-2000000 : Int))) (some (decide (a0.2 ≤ (2000000 : Int)))) (some false)) (some false)) (some false)) (fun v1 => (some v1)))
theorem e31 (t : Int × Int) : evF (stpT Tryz.prog T15 K15) Tryz.f31 p31 r31 (.s .d (.s (.j false [o31_s0] .d) .d)) t = (o31 t) := by kernel_rfl
theorem fo31 : FOk Tryz.prog 31 ⟨p31, r31, fun t => (o31 t)⟩ := FOk.run_eq (evF_ok (h := (.s .d (.s (.j false [o31_s0] .d) .d))) (by kernel_rfl) (by kernel_rfl) (by kernel_rfl)) e31
def T16 : Tbl := (31, ⟨p31, r31, fun t => (o31 t)⟩) :: T15
theorem K16 : TOk Tryz.prog T16 := .cons K15 fo31
def Bsa7a67f : BSh := .cells 63 [.b, .i .u8, .s, .s, .i .u8, .b, .i .i64, .i .i64, .i .i64, .i .i64, .i .i64, .i .i64, .i .i64, .i .i64, .i .i64, .i .i64, .i .i64, .i .i64, .i .u8, .s]
def Ss9a7268 : SSh := .v (.agg [.b, .i .u8, .s, .s, .i .u8, .b, .i .i64, .i .i64, .i .i64, .i .i64, .i .i64, .i .i64, .i .i64, .i .i64, .i .i64, .i .i64, .i .i64, .i .i64, .i .u8, .s])
abbrev Ty7661d1 : Type := (((Bool × Int) × List UInt8 × List UInt8 × Int) × (Bool × Int) × Int × Int × Int) × ((Int × Int) × Int × Int × Int) × (Int × Int) × Int × Int × List UInt8
def o15_s0 : Sch := ⟨[(1, .v (.c (.ptr 0 0))), (20, .v (.c (.b)))], [Bsa7a67f]⟩
def o15_s1 : Sch := ⟨[(31, .v (.c (.b)))], []⟩
def p15 : Sch := ⟨[(0, Ss9a7268)], []⟩
def r15 : List Sch := [⟨[(0, .v (.c (.i .i64)))], []⟩]
def o15 (a0 : Ty7661d1) : Option Int :=
 (bd (α := Int) (o28 (((a0.1.1.1.2, a0.1.1.2.1, a0.1.1.2.2.1), a0.1.1.2.2.2, a0.1.2.1), a0.1.2.2, a0.2.1.1, a0.2.1.2.1, a0.2.1.2.2.1)) (fun v1 => (cnd (v1 != (0 : Int)) (some v1) (bd (α := Bool) (o29 a0.2.2.2.2.1) (fun v2 => (cnd (!v2) (some (17 : Int)) (bd (α := Bool) (o30 a0.2.2.2.2.2) (fun v3 => (cnd (!v3) (some (5 : Int)) (bd (α := (Bool × Ty7661d1)) (bd (α := Bool) (o31 (a0.2.1.2.2.2, a0.2.2.1.1)) (fun v4 => (cnd (!v4) (some (true, a0)) (bd (α := Bool) (o31 (a0.2.2.1.2, a0.2.2.2.1)) (fun v5 => (some ((!v5), a0))))))) (fun v6 => (cnd v6.1 (some (2 : Int)) (bd (α := Bool) (cnd (v6.2.1.1.2.1 == ([] : List UInt8)) (cnd (!((v6.2.2.1.2.2.2 == (0 : Int)) && (v6.2.2.2.1.1 == (0 : Int)))) (some true) (cnd (v6.2.1.1.2.2.1 == ([] : List UInt8)) (some (!((v6.2.2.2.1.2 == (0 : Int)) && (v6.2.2.2.2.1 == (0 : Int))))) (some false))) (cnd (v6.2.1.1.2.2.1 == ([] : List UInt8)) (some (!((v6.2.2.2.1.2 == (0 : Int)) && (v6.2.2.2.2.1 == (0 : Int))))) (some false))) (fun v7 => (cnd v7 (some (1 : Int)) (some (0 : Int)))))))))))))))))
def h15 : HC := (.s .d (.s .d (.s (.b (.s .d (.c .d (.s .d (.c .d (.s (.j false [o15_s0] .d) (.c .d (.s (.j false [o15_s1] .d) .d)))))))) .d)))
theorem e15 (t : Ty7661d1) : evF (stpT Tryz.prog T16 K16) Tryz.f15 p15 r15 h15 t = (o15 t) := by kernel_rfl
theorem fo15 : FOk Tryz.prog 15 ⟨p15, r15, fun t => (o15 t)⟩ := FOk.run_eq (evF_ok (h := h15) (by kernel_rfl) (by kernel_rfl) (by kernel_rfl)) e15
def T17 : Tbl := (15, ⟨p15, r15, fun t => (o15 t)⟩) :: T16
theorem K17 : TOk Tryz.prog T17 := .cons K16 fo15
def o16_s0 : Sch := ⟨[(2, .v (.c (.b)))], []⟩
def p16 : Sch := ⟨[(0, .v (.c (.i .u8)))], []⟩
def r16 : List Sch := [⟨[(0, .v (.c (.b)))], []⟩]
def o16 (a0 : Int) : Option Bool :=
 (bd (α := Bool) (cnd (a0 == (1 : Int)) (some true) (cnd (a0 == (3 : Int)) (some true) (some (a0 == (4 : Int))))) (fun v1 => (some v1)))
theorem e16 (t : Int) : evF (stpT Tryz.prog T17 K17) Tryz.f16 p16 r16 (.s .d (.s (.j false [o16_s0] .d) .d)) t = (o16 t) := by kernel_rfl
theorem fo16 : FOk Tryz.prog 16 ⟨p16, r16, fun t => (o16 t)⟩ := FOk.run_eq (evF_ok (h := (.s .d (.s (.j false [o16_s0] .d) .d))) (by kernel_rfl) (by kernel_rfl) (by kernel_rfl)) e16
def T18 : Tbl := (16, ⟨p16, r16, fun t => (o16 t)⟩) :: T17
theorem K18 : TOk Tryz.prog T18 := .cons K17 fo16
def o32_s0 : Sch := ⟨[(0, .v (.c (.i .u8))), (1, .v (.c (.i .u8))), (12, .v (.c (.b)))], []⟩
def o32_s1 : Sch := ⟨[(29, .v (.c (.b)))], []⟩
def o32_s2 : Sch := ⟨[(47, .v (.c (.b)))], []⟩
def o32_s3 : Sch := ⟨[(1, .v (.c (.i .u8))), (13, .v (.c (.i .u8))), (40, .v (.c (.b)))], []⟩
def o32_s4 : Sch := ⟨[(1, .v (.c (.i .u8))), (13, .v (.c (.i .u8))), (23, .v (.c (.b)))], []⟩
def o32_s5 : Sch := ⟨[(1, .v (.c (.i .u8))), (13, .v (.c (.i .u8))), (14, .v (.c (.b)))], []⟩
def p32 : Sch := ⟨[(0, .v (.c (.i .u8))), (1, .v (.c (.i .u8)))], []⟩
def r32 : List Sch := [⟨[(0, .v (.c (.b)))], []⟩]
def o32 (a0 : Int) (a1 : Int) : Option Bool :=
 (bd (α := (Int × Int × Bool)) (bd (α := Bool) (o52 a0) (fun v1 => (cnd (!v1) (some (a0, a1, true)) (bd (α := Bool) (o52 a1) (fun v2 => (some (a0, a1, (!v2)))))))) (fun v3 => (cnd v3.2.2 (some false) (bd (α := (Int × Int × Bool)) (cnd (v3.1 == (1 : Int)) (some (v3.2.1, v3.1, true)) (cnd (v3.1 == (2 : Int)) (some (v3.2.1, v3.1, true)) (cnd (v3.1 == (3 : Int)) (some (v3.2.1, v3.1, true)) (cnd (v3.1 == (4 : Int)) (some (v3.2.1, v3.1, true)) (cnd (v3.1 == (5 : Int)) (some (v3.2.1, v3.1, true)) (some (v3.2.1, v3.1, (v3.1 == (6 : Int))))))))) (fun v4 => (cnd v4.2.2 (some (v4.1 != (1 : Int))) (bd (α := (Int × Int × Bool)) (cnd (v4.2.1 == (14 : Int)) (some (v4.1, v4.2.1, true)) (cnd (v4.2.1 == (15 : Int)) (some (v4.1, v4.2.1, true)) (cnd (v4.2.1 == (16 : Int)) (some (v4.1, v4.2.1, true)) (some (v4.1, v4.2.1, (v4.2.1 == (17 : Int))))))) (fun v5 => (cnd v5.2.2 (bd (α := Bool) (cnd (v5.1 == (2 : Int)) (some true) (cnd (v5.1 == (3 : Int)) (some true) (cnd (v5.1 == (4 : Int)) (some true) (cnd (v5.1 == (7 : Int)) (some true) (cnd (v5.1 == (8 : Int)) (some true) (cnd (v5.1 == (9 : Int)) (some true) (cnd (v5.1 == (10 : Int)) (some true) (cnd (v5.1 == (11 : Int)) (some true) (cnd (v5.1 == (12 : Int)) (some true) (some (v5.1 == (13 : Int)))))))))))) (fun v6 => (cnd v6 (some true) (some false)))) (bd (α := (Int × Int × Bool)) (cnd (v5.2.1 == (7 : Int)) (some (v5.1, v5.2.1, true)) (cnd (v5.2.1 == (8 : Int)) (some (v5.1, v5.2.1, true)) (cnd (v5.2.1 == (10 : Int)) (some (v5.1, v5.2.1, true)) (cnd (v5.2.1 == (11 : Int)) (some (v5.1, v5.2.1, true)) (some (v5.1, v5.2.1, (v5.2.1 == (12 : Int)))))))) (fun v7 => (cnd v7.2.2 (bd (α := Bool) (cnd (v7.1 == (3 : Int)) (some true) (cnd (v7.1 == (4 : Int)) (some true) (cnd (v7.1 == (7 : Int)) (some true) (cnd (v7.1 == (8 : Int)) (some true) (cnd (v7.1 == (9 : Int)) (some true) (some (v7.1 == (10 : Int)))))))) (fun v8 => (cnd v8 (some true) (some false)))) (cnd (v7.2.1 == (9 : Int)) (some (v7.1 == (3 : Int))) (some false))))))))))))))
def h32 : HC := (.s .d (.s (.s (.j false [o32_s0] .d) .d) (.s (.s .d (.b (.j false [o32_s5] (.s .d (.c .d (.j false [o32_s4] (.s .d (.c (.s .d (.b (.j false [o32_s1] .d))) (.j false [o32_s3] (.s .d (.c (.s .d (.b (.j false [o32_s2] .d))) .d))))))))))) .d)))
theorem e32 (t : Int × Int) : evF (stpT Tryz.prog T18 K18) Tryz.f32 p32 r32 h32 t = (o32 t.1 t.2) := by kernel_rfl
theorem fo32 : FOk Tryz.prog 32 ⟨p32, r32, fun t => (o32 t.1 t.2)⟩ := FOk.run_eq (evF_ok (h := h32) (by kernel_rfl) (by kernel_rfl) (by kernel_rfl)) e32
def T19 : Tbl := (32, ⟨p32, r32, fun t => (o32 t.1 t.2)⟩) :: T18
theorem K19 : TOk Tryz.prog T19 := .cons K18 fo32
def o33_s0 : Sch := ⟨[(4, .v (.c (.b)))], []⟩
def p33 : Sch := ⟨[(0, .v (.c (.i .u8)))], []⟩
def r33 : List Sch := [⟨[(0, .v (.c (.b)))], []⟩]
def o33 (a0 : Int) : Option Bool :=
 (bd (α := Bool) (cnd (a0 == (11 : Int)) (some true) (cnd (a0 == (12 : Int)) (some true) (cnd (a0 == (13 : Int)) (some true) (cnd (a0 == (14 : Int)) (some true) (cnd (a0 == (15 : Int)) (some true) (cnd (a0 == (16 : Int)) (some true) (some (a0 == (17 : Int))))))))) (fun v1 => (cnd v1 (some true) (some false))))
def h33 : HC := (.s .d (.s (.s .d (.b (.j false [o33_s0] .d))) .d))
theorem e33 (t : Int) : evF (stpT Tryz.prog T19 K19) Tryz.f33 p33 r33 h33 t = (o33 t) := by kernel_rfl
theorem fo33 : FOk Tryz.prog 33 ⟨p33, r33, fun t => (o33 t)⟩ := FOk.run_eq (evF_ok (h := h33) (by kernel_rfl) (by kernel_rfl) (by kernel_rfl)) e33
def T20 : Tbl := (33, ⟨p33, r33, fun t => (o33 t)⟩) :: T19
theorem K20 : TOk Tryz.prog T20 := .cons K19 fo33
def o17_s0 : Sch := ⟨[(4, .v (.c (.b)))], []⟩
def p17 : Sch := ⟨[(0, Ss3e3d2b), (1, Ss3e3d2b)], []⟩
def r17 : List Sch := [⟨[(0, .v (.c (.b)))], []⟩]
def o17 (a0 : Ty22ecb9) (a1 : Ty22ecb9) : Option Bool :=
 (bd (α := Bool) (bd (α := Bool) (o32 a0.1.1.1 a1.1.1.1) (fun v1 => (cnd v1 (bd (α := Bool) (o33 a1.1.1.1) (fun v2 => (cnd (!v2) (some true) (some (a0.1.1.2.1 == a1.1.1.2.1))))) (some false)))) (fun v3 => (some v3)))
theorem e17 (t : Ty22ecb9 × Ty22ecb9) : evF (stpT Tryz.prog T20 K20) Tryz.f17 p17 r17 (.s .d (.s (.j false [o17_s0] .d) .d)) t = (o17 t.1 t.2) := by kernel_rfl
theorem fo17 : FOk Tryz.prog 17 ⟨p17, r17, fun t => (o17 t.1 t.2)⟩ := FOk.run_eq (evF_ok (h := (.s .d (.s (.j false [o17_s0] .d) .d))) (by kernel_rfl) (by kernel_rfl) (by kernel_rfl)) e17
def T21 : Tbl := (17, ⟨p17, r17, fun t => (o17 t.1 t.2)⟩) :: T20
theorem K21 : TOk Tryz.prog T21 := .cons K20 fo17
def o34_s0 : Sch := ⟨[(4, .v (.c (.b)))], []⟩
def p34 : Sch := ⟨[(0, .v (.c (.i .u8)))], []⟩
def r34 : List Sch := [⟨[(0, .v (.c (.b)))], []⟩]
def o34 (a0 : Int) : Option Bool :=
 (bd (α := Bool) (cnd (a0 == (1 : Int)) (some true) (cnd (a0 == (2 : Int)) (some true) (cnd (a0 == (3 : Int)) (some true) (cnd (a0 == (4 : Int)) (some true) (cnd (a0 == (5 : Int)) (some true) (cnd (a0 == (6 : Int)) (some true) (cnd (a0 == (14 : Int)) (some true) (cnd (a0 == (15 : Int)) (some true) (cnd (a0 == (16 : Int)) (some true) (some (a0 == (17 : Int)))))))))))) (fun v1 => (cnd v1 (some true) (some false))))
def h34 : HC := (.s .d (.s (.s .d (.b (.j false [o34_s0] .d))) .d))
theorem e34 (t : Int) : evF (stpT Tryz.prog T21 K21) Tryz.f34 p34 r34 h34 t = (o34 t) := by kernel_rfl
theorem fo34 : FOk Tryz.prog 34 ⟨p34, r34, fun t => (o34 t)⟩ := FOk.run_eq (evF_ok (h := h34) (by kernel_rfl) (by kernel_rfl) (by kernel_rfl)) e34
def T22 : Tbl := (34, ⟨p34, r34, fun t => (o34 t)⟩) :: T21
theorem K22 : TOk Tryz.prog T22 := .cons K21 fo34
def o18_s0 : Sch := ⟨[(4, .v (.c (.b)))], []⟩
def p18 : Sch := ⟨[(0, Ss3e3d2b), (1, Ss3e3d2b)], []⟩
def r18 : List Sch := [⟨[(0, .v (.c (.b)))], []⟩]
def o18 (a0 : Ty22ecb9) (a1 : Ty22ecb9) : Option Bool :=
 (bd (α := Bool) (bd (α := Bool) (o34 a0.1.1.1) (fun v1 => (cnd v1 (some (a0.1.1.2.1 == a1.1.1.2.1)) (some false)))) (fun v2 => (some v2)))
theorem e18 (t : Ty22ecb9 × Ty22ecb9) : evF (stpT Tryz.prog T22 K22) Tryz.f18 p18 r18 (.s .d (.s (.j false [o18_s0] .d) .d)) t = (o18 t.1 t.2) := by kernel_rfl
theorem fo18 : FOk Tryz.prog 18 ⟨p18, r18, fun t => (o18 t.1 t.2)⟩ := FOk.run_eq (evF_ok (h := (.s .d (.s (.j false [o18_s0] .d) .d))) (by kernel_rfl) (by kernel_rfl) (by kernel_rfl)) e18
def T23 : Tbl := (18, ⟨p18, r18, fun t => (o18 t.1 t.2)⟩) :: T22
theorem K23 : TOk Tryz.prog T23 := .cons K22 fo18
def Bs82369c : BSh := .cells 24 [.s, .s, .ro (.p .b (.p (.p (.i .u8) (.p .s (.p .s (.p (.i .u8) (.p .b (.p (.i .i64) (.p (.i .i64) (.p (.i .i64) (.p (.i .i64) (.p (.p (.i .i64) (.i .i64)) (.p (.i .i64) (.i .i64)))))))))))) (.p (.p (.i .i64) (.i .i64)) (.p (.p (.i .i64) (.i .i64)) (.p (.i .u8) .s))))) false, .i .i64]
def Sse569ae : SSh := .v (.c (.ro (.p .b (.p (.p (.i .u8) (.p .s (.p .s (.p (.i .u8) (.p .b (.p (.i .i64) (.p (.i .i64) (.p (.i .i64) (.p (.i .i64) (.p (.p (.i .i64) (.i .i64)) (.p (.i .i64) (.i .i64)))))))))))) (.p (.p (.i .i64) (.i .i64)) (.p (.p (.i .i64) (.i .i64)) (.p (.i .u8) .s))))) false))
def Ss934196 : SSh := .v (.agg [.s, .s, .ro (.p .b (.p (.p (.i .u8) (.p .s (.p .s (.p (.i .u8) (.p .b (.p (.i .i64) (.p (.i .i64) (.p (.i .i64) (.p (.i .i64) (.p (.p (.i .i64) (.i .i64)) (.p (.i .i64) (.i .i64)))))))))))) (.p (.p (.i .i64) (.i .i64)) (.p (.p (.i .i64) (.i .i64)) (.p (.i .u8) .s))))) false, .i .i64])
abbrev Tya2e0c9 : Type := Bool × (Int × List UInt8 × List UInt8 × Int × Bool × Int × Int × Int × Int × (Int × Int) × Int × Int) × (Int × Int) × (Int × Int) × Int × List UInt8
abbrev Ty9d3b88 : Type := (List UInt8 × List UInt8) × List Tya2e0c9 × Int
def Df4c50a0 : Tya2e0c9 := (false, (((0 : Int), (([] : List UInt8), (([] : List UInt8), ((0 : Int), (false, ((0 : Int), ((0 : Int), ((0 : Int), ((0 : Int), (((0 : Int), (0 : Int)), ((0 : Int), (0 : Int)))))))))))), (((0 : Int), (0 : Int)), (((0 : Int), (0 : Int)), ((0 : Int), ([] : List UInt8))))))
abbrev Ty901116 : Type := ((Int × Int) × List Tya2e0c9 × Int) × (Int × Bool) × Ty9d3b88 × Ty7661d1
abbrev Ty69ff1d : Type := (Int × List Tya2e0c9 × Int) × (Int × Bool) × Ty9d3b88 × Ty7661d1
def o4_s0 : Sch := ⟨[(1, .v (.c (.ptr 0 0))), (17, .v (.c (.b)))], [Bs82369c]⟩
def o4_s1 : Sch := ⟨[(1, .v (.c (.ptr 0 0))), (3, .v (.c (.i .u8))), (23, Sse569ae), (24, .v (.c (.i .i64))), (25, .v (.c (.i .i64))), (36, .v (.c (.b)))], [Bs82369c]⟩
def o4_s2 : Sch := ⟨[(1, .v (.c (.ptr 0 0))), (3, .v (.c (.i .u8))), (4, .v (.c (.i .i64))), (5, .v (.c (.ptr 1 0))), (23, Sse569ae), (24, .v (.c (.i .i64))), (25, .v (.c (.i .i64))), (71, .v (.c (.b)))], [Bs82369c, Bsa7a67f]⟩
def o4_s3 : Sch := ⟨[(1, .v (.c (.ptr 0 0))), (3, .v (.c (.i .u8))), (5, .v (.c (.ptr 1 0))), (23, Sse569ae), (24, .v (.c (.i .i64))), (25, .v (.c (.i .i64))), (104, .v (.c (.b)))], [Bs82369c, Bsa7a67f]⟩
def o4_s4 : Sch := ⟨[(1, .v (.c (.ptr 0 0))), (3, .v (.c (.i .u8))), (5, .v (.c (.ptr 1 0))), (23, Sse569ae), (24, .v (.c (.i .i64))), (25, .v (.c (.i .i64)))], [Bs82369c, Bsa7a67f]⟩
def o4_s5 : Sch := ⟨[(1, .v (.c (.ptr 0 0))), (3, .v (.c (.i .u8))), (23, Sse569ae), (24, .v (.c (.i .i64))), (25, .v (.c (.i .i64)))], [Bs82369c]⟩
def o4_s6 : Sch := ⟨[(136, .v (.c (.b)))], []⟩
def p4 : Sch := ⟨[(0, Ss934196)], []⟩
def r4 : List Sch := [⟨[(0, .v (.c (.i .i64)))], []⟩]
def o4 (a0 : Ty9d3b88) : Option Int :=
 (bd (α := (Bool × Ty9d3b88)) (bd (α := Bool) (o14 a0.1.1) (fun v1 => (cnd (!v1) (some (true, a0)) (bd (α := Bool) (o14 a0.1.2) (fun v2 => (some ((!v2), a0))))))) (fun v3 => (cnd v3.1 (some (5 : Int)) (cnd (decide (((v3.2.2.1.length : Nat) : Int) > (60 : Int))) (some (3 : Int)) (loopO (σ := (Int × List Tya2e0c9) × Int × Int × Ty9d3b88) fuelN (fun (v5 : (Int × List Tya2e0c9) × Int × Int × Ty9d3b88) => (cnd (decide (v5.2.2.1 < v5.2.1)) (gd (decide ((0 : Int) ≤ v5.2.2.1 ∧ v5.2.2.1 < ((v5.1.2.length : Nat) : Int))) (bd (α := Tya2e0c9) (some (List.getD v5.1.2 v5.2.2.1.toNat Df4c50a0)) (fun v6 => (cnd v6.1 (cnd (!((v6.1 == true) && (((v6.2.1.1 == (0 : Int)) && ((strEq v6.2.1.2.1 ([] : List UInt8)) && ((strEq v6.2.1.2.2.1 ([] : List UInt8)) && ((v6.2.1.2.2.2.1 == (0 : Int)) && ((v6.2.1.2.2.2.2.1 == false) && ((v6.2.1.2.2.2.2.2.1 == (0 : Int)) && ((v6.2.1.2.2.2.2.2.2.1 == (0 : Int)) && ((v6.2.1.2.2.2.2.2.2.2.1 == (0 : Int)) && ((v6.2.1.2.2.2.2.2.2.2.2.1 == (0 : Int)) && (((v6.2.1.2.2.2.2.2.2.2.2.2.1.1 == (0 : Int)) && (v6.2.1.2.2.2.2.2.2.2.2.2.1.2 == (0 : Int))) && ((v6.2.1.2.2.2.2.2.2.2.2.2.2.1 == (0 : Int)) && (v6.2.1.2.2.2.2.2.2.2.2.2.2.2 == (0 : Int))))))))))))) && (((v6.2.2.1.1 == (0 : Int)) && (v6.2.2.1.2 == (0 : Int))) && (((v6.2.2.2.1.1 == (0 : Int)) && (v6.2.2.2.1.2 == (0 : Int))) && ((v6.2.2.2.2.1 == (0 : Int)) && (strEq v6.2.2.2.2.2 ([] : List UInt8)))))))) (dnO (some (1 : Int))) (bd (α := ((Int × List Tya2e0c9 × Int) × Int × Bool × Ty9d3b88)) (cnd (v5.2.2.1 == (0 : Int)) (some ((v5.1.1, v5.1.2, v5.2.1), v5.2.2.1, true, v5.2.2.2)) (cnd (v5.2.2.1 == (IntKind.wrap .i64 (((v5.2.2.2.2.1.length : Nat) : Int) - (1 : Int)))) (some ((v5.1.1, v5.1.2, v5.2.1), v5.2.2.1, true, v5.2.2.2)) (gd (decide ((0 : Int) ≤ (IntKind.wrap .i64 (v5.2.2.1 - (1 : Int))) ∧ (IntKind.wrap .i64 (v5.2.2.1 - (1 : Int))) < ((v5.2.2.2.2.1.length : Nat) : Int))) (some ((v5.1.1, v5.1.2, v5.2.1), v5.2.2.1, (List.getD v5.2.2.2.2.1 (IntKind.wrap .i64 (v5.2.2.1 - (1 : Int))).toNat Df4c50a0).1, v5.2.2.2))))) (fun v7 => (cnd v7.2.2.1 (dnO (some (9 : Int))) (some (Ctl.go ((v7.1.1, v7.1.2.1), v7.1.2.2, (IntKind.wrap .i64 (v7.2.1 + (1 : Int))), v7.2.2.2))))))) (bd (α := Int) (o15 ((((v6.1, v6.2.1.1), v6.2.1.2.1, v6.2.1.2.2.1, v6.2.1.2.2.2.1), (v6.2.1.2.2.2.2.1, v6.2.1.2.2.2.2.2.1), v6.2.1.2.2.2.2.2.2.1, v6.2.1.2.2.2.2.2.2.2.1, v6.2.1.2.2.2.2.2.2.2.2.1), (v6.2.1.2.2.2.2.2.2.2.2.2.1, v6.2.1.2.2.2.2.2.2.2.2.2.2.1, v6.2.1.2.2.2.2.2.2.2.2.2.2.2, v6.2.2.1.1), (v6.2.2.1.2, v6.2.2.2.1.1), v6.2.2.2.1.2, v6.2.2.2.2)) (fun v8 => (cnd (v8 != (0 : Int)) (dnO (some v8)) (jd (α := ((Int × List Tya2e0c9 × Int) × Int × Ty9d3b88 × Ty7661d1)) (bd (α := Ty901116) (cnd (v5.2.2.1 == (0 : Int)) (some (((v5.1.1, v5.2.2.1), v5.1.2, v5.2.1), (v5.2.2.1, true), v5.2.2.2, (((v6.1, v6.2.1.1), v6.2.1.2.1, v6.2.1.2.2.1, v6.2.1.2.2.2.1), (v6.2.1.2.2.2.2.1, v6.2.1.2.2.2.2.2.1), v6.2.1.2.2.2.2.2.2.1, v6.2.1.2.2.2.2.2.2.2.1, v6.2.1.2.2.2.2.2.2.2.2.1), (v6.2.1.2.2.2.2.2.2.2.2.2.1, v6.2.1.2.2.2.2.2.2.2.2.2.2.1, v6.2.1.2.2.2.2.2.2.2.2.2.2.2, v6.2.2.1.1), (v6.2.2.1.2, v6.2.2.2.1.1), v6.2.2.2.1.2, v6.2.2.2.2)) (gd (decide ((0 : Int) ≤ (IntKind.wrap .i64 (v5.2.2.1 - (1 : Int))) ∧ (IntKind.wrap .i64 (v5.2.2.1 - (1 : Int))) < ((v5.2.2.2.2.1.length : Nat) : Int))) (some (((v5.1.1, v5.2.2.1), v5.1.2, v5.2.1), (v5.2.2.1, (List.getD v5.2.2.2.2.1 (IntKind.wrap .i64 (v5.2.2.1 - (1 : Int))).toNat Df4c50a0).1), v5.2.2.2, (((v6.1, v6.2.1.1), v6.2.1.2.1, v6.2.1.2.2.1, v6.2.1.2.2.2.1), (v6.2.1.2.2.2.2.1, v6.2.1.2.2.2.2.2.1), v6.2.1.2.2.2.2.2.2.1, v6.2.1.2.2.2.2.2.2.2.1, v6.2.1.2.2.2.2.2.2.2.2.1), (v6.2.1.2.2.2.2.2.2.2.2.2.1, v6.2.1.2.2.2.2.2.2.2.2.2.2.1, v6.2.1.2.2.2.2.2.2.2.2.2.2.2, v6.2.2.1.1), (v6.2.2.1.2, v6.2.2.2.1.1), v6.2.2.2.1.2, v6.2.2.2.2)))) (fun v9 => (cnd v9.2.1.2 (bd (α := Bool) (o16 v9.2.2.2.1.1.1.2) (fun v10 => (cnd (!v10) (dnO (dnO (some (9 : Int)))) (some (Ctl.go ((v9.1.1.1, v9.1.2), v9.2.1.1, v9.2.2)))))) (gd (decide ((0 : Int) ≤ (IntKind.wrap .i64 (v9.1.1.2 - (1 : Int))) ∧ (IntKind.wrap .i64 (v9.1.1.2 - (1 : Int))) < ((v9.2.2.1.2.1.length : Nat) : Int))) (bd (α := Tya2e0c9) (some (List.getD v9.2.2.1.2.1 (IntKind.wrap .i64 (v9.1.1.2 - (1 : Int))).toNat Df4c50a0)) (fun v11 => (bd (α := Bool) (o17 (((v11.2.1.1, v11.2.1.2.1, v11.2.1.2.2.1), v11.2.1.2.2.2.1, v11.2.1.2.2.2.2.1, v11.2.1.2.2.2.2.2.1), (v11.2.1.2.2.2.2.2.2.1, v11.2.1.2.2.2.2.2.2.2.1, v11.2.1.2.2.2.2.2.2.2.2.1), v11.2.1.2.2.2.2.2.2.2.2.2) (((v9.2.2.2.1.1.1.2, v9.2.2.2.1.1.2.1, v9.2.2.2.1.1.2.2.1), v9.2.2.2.1.1.2.2.2, v9.2.2.2.1.2.1), v9.2.2.2.1.2.2, v9.2.2.2.2.1.1, v9.2.2.2.2.1.2.1, v9.2.2.2.2.1.2.2.1)) (fun v12 => (cnd (!v12) (dnO (dnO (some (9 : Int)))) (bd (α := Ty69ff1d) (cnd (v9.2.2.2.1.1.1.2 == (2 : Int)) (bd (α := Bool) (o18 (((v11.2.1.1, v11.2.1.2.1, v11.2.1.2.2.1), v11.2.1.2.2.2.1, v11.2.1.2.2.2.2.1, v11.2.1.2.2.2.2.2.1), (v11.2.1.2.2.2.2.2.2.1, v11.2.1.2.2.2.2.2.2.2.1, v11.2.1.2.2.2.2.2.2.2.2.1), v11.2.1.2.2.2.2.2.2.2.2.2) (((v9.2.2.2.1.1.1.2, v9.2.2.2.1.1.2.1, v9.2.2.2.1.1.2.2.1), v9.2.2.2.1.1.2.2.2, v9.2.2.2.1.2.1), v9.2.2.2.1.2.2, v9.2.2.2.2.1.1, v9.2.2.2.2.1.2.1, v9.2.2.2.2.1.2.2.1)) (fun v13 => (some ((v9.1.1.1, v9.1.2), (v9.2.1.1, v13), v9.2.2)))) (cnd (v9.2.2.2.1.1.1.2 == (4 : Int)) (bd (α := Bool) (o18 (((v11.2.1.1, v11.2.1.2.1, v11.2.1.2.2.1), v11.2.1.2.2.2.1, v11.2.1.2.2.2.2.1, v11.2.1.2.2.2.2.2.1), (v11.2.1.2.2.2.2.2.2.1, v11.2.1.2.2.2.2.2.2.2.1, v11.2.1.2.2.2.2.2.2.2.2.1), v11.2.1.2.2.2.2.2.2.2.2.2) (((v9.2.2.2.1.1.1.2, v9.2.2.2.1.1.2.1, v9.2.2.2.1.1.2.2.1), v9.2.2.2.1.1.2.2.2, v9.2.2.2.1.2.1), v9.2.2.2.1.2.2, v9.2.2.2.2.1.1, v9.2.2.2.2.1.2.1, v9.2.2.2.2.1.2.2.1)) (fun v14 => (some ((v9.1.1.1, v9.1.2), (v9.2.1.1, v14), v9.2.2)))) (some ((v9.1.1.1, v9.1.2), (v9.2.1.1, false), v9.2.2)))) (fun v15 => (cnd v15.2.1.2 (dnO (dnO (some (7 : Int)))) (some (Ctl.go (v15.1, v15.2.1.1, v15.2.2))))))))))))))) (fun v16 => (cnd (decide (v16.2.2.2.2.2.2.2.1 < v16.1.1)) (dnO (some (9 : Int))) (some (Ctl.go ((v16.2.2.2.2.2.2.2.1, v16.1.2.1), v16.1.2.2, (IntKind.wrap .i64 (v16.2.1 + (1 : Int))), v16.2.2.1))))))))))))) (dnO (bd (α := Bool) (cnd (v5.2.2.2.2.2 != (-1 : Int)) (cnd (decide (v5.2.2.2.2.2 < (0 : Int))) (some true) (cnd (decide (v5.2.2.2.2.2 ≥ ((v5.2.2.2.2.1.length : Nat) : Int))) (some true) (gd (decide ((0 : Int) ≤ v5.2.2.2.2.2 ∧ v5.2.2.2.2.2 < ((v5.2.2.2.2.1.length : Nat) : Int))) (some ((List.getD v5.2.2.2.2.1 v5.2.2.2.2.2.toNat Df4c50a0).1))))) (some false)) (fun v17 => (cnd v17 (some (2 : Int)) (some (0 : Int)))))))) (((0 : Int), v3.2.2.1), ((v3.2.2.1.length : Nat) : Int), (0 : Int), v3.2))))))
def h4 : HC := (.s .d (.s (.s (.j false [o4_s0] .d) .d) (.s .d (.s .d (.s (.s .d (.b (.l [o4_s5] (.s .d (.s .d (.s (.b (.s .d (.s (.s .d (.c (.s (.b (.s .d (.c .d (.s (.j false [o4_s1] .d) .d)))) .d) .d)) (.s .d (.j true [o4_s4] (.s (.s (.j false [o4_s2] .d) (.c .d (.s .d (.s .d (.s (.j false [o4_s3] .d) .d))))) .d)))))) .d)))))) (.s (.s (.j false [o4_s6] .d) .d) .d))))))
theorem e4 (t : Ty9d3b88) : evF (stpT Tryz.prog T23 K23) Tryz.f4 p4 r4 h4 t = (o4 t) := by kernel_rfl
theorem fo4 : FOk Tryz.prog 4 ⟨p4, r4, fun t => (o4 t)⟩ := FOk.run_eq (evF_ok (h := h4) (by kernel_rfl) (by kernel_rfl) (by kernel_rfl)) e4
def T24 : Tbl := (4, ⟨p4, r4, fun t => (o4 t)⟩) :: T23
theorem K24 : TOk Tryz.prog T24 := .cons K23 fo4
def Bs214155 : BSh := .row (.p .b (.p (.p (.i .u8) (.p .s (.p .s (.p (.i .u8) (.p .b (.p (.i .i64) (.p (.i .i64) (.p (.i .i64) (.p (.i .i64) (.p (.p (.i .i64) (.i .i64)) (.p (.i .i64) (.i .i64)))))))))))) (.p (.p (.i .i64) (.i .i64)) (.p (.p (.i .i64) (.i .i64)) (.p (.i .u8) .s))))) 63
def p35 : Sch := ⟨[(0, Sse569ae)], []⟩
def r35 : List Sch := [⟨[(0, .v (.c (.own 0)))], [Bs214155]⟩]
def o35 (a0 : List Tya2e0c9) : Option (List Tya2e0c9) :=
 (nlO (List.isEmpty a0) (some ([] : List Tya2e0c9)) (gd (decide ((([] : List Tya2e0c9).length + a0.length) * 176 ≤ 140737488355328)) (some (([] : List Tya2e0c9) ++ a0))))
theorem e35 (t : List Tya2e0c9) : evF (stpT Tryz.prog T24 K24) Tryz.f35 p35 r35 .d t = (o35 t) := by kernel_rfl
theorem fo35 : FOk Tryz.prog 35 ⟨p35, r35, fun t => (o35 t)⟩ := FOk.run_eq (evF_ok (h := .d) (by kernel_rfl) (by kernel_rfl) (by kernel_rfl)) e35
def T25 : Tbl := (35, ⟨p35, r35, fun t => (o35 t)⟩) :: T24
theorem K25 : TOk Tryz.prog T25 := .cons K24 fo35
def Ss96c992 : SSh := .v (.agg [.s, .s, .own 0, .i .i64])
def p19 : Sch := ⟨[(0, Ss934196)], []⟩
def r19 : List Sch := [⟨[(0, Ss96c992)], [Bs214155]⟩]
def o19 (a0 : Ty9d3b88) : Option ((List UInt8 × List UInt8 × Int) × List Tya2e0c9) :=
 (bd (α := (List Tya2e0c9)) (o35 a0.2.1) (fun v1 => (some ((a0.1.1, a0.1.2, a0.2.2), v1))))
theorem e19 (t : Ty9d3b88) : evF (stpT Tryz.prog T25 K25) Tryz.f19 p19 r19 .d t = (o19 t) := by kernel_rfl
theorem fo19 : FOk Tryz.prog 19 ⟨p19, r19, fun t => (o19 t)⟩ := FOk.run_eq (evF_ok (h := .d) (by kernel_rfl) (by kernel_rfl) (by kernel_rfl)) e19
def T26 : Tbl := (19, ⟨p19, r19, fun t => (o19 t)⟩) :: T25
theorem K26 : TOk Tryz.prog T26 := .cons K25 fo19
def Ssb9d75d : SSh := .tup [.c (.cst (.pointer none)), .c (.i .i64)]
def Ss10ad6e : SSh := .tup [.c (.ptr 0 0), .c (.ic .i64 (0))]
def Bsf06d96 : BSh := .cells 72 [.s, .s, .own 1, .i .i64, .s, .s, .cst (.slice none 0 0), .ic .i64 (0), .bc false, .cst (.slice none 0 0), .cst (.slice none 0 0)]
abbrev Tyc035a2 : Type := (List UInt8 × List UInt8) × Int × List UInt8 × List UInt8
def p5 : Sch := ⟨[(0, Ss934196)], []⟩
def r5 : List Sch := [⟨[(0, Ssb9d75d)], []⟩, ⟨[(0, Ss10ad6e)], [Bsf06d96, Bs214155]⟩]
def o5 (a0 : Ty9d3b88) : Option (Int ⊕ (Tyc035a2 × List Tya2e0c9)) :=
 (bd (α := Int) (o4 a0) (fun v1 => (cnd (v1 != (0 : Int)) (some (Sum.inl v1)) (bd (α := ((List UInt8 × List UInt8 × Int) × List Tya2e0c9)) (o19 a0) (fun v2 => (some (Sum.inr (((v2.1.1, v2.1.2.1), v2.1.2.2, ([] : List UInt8), ([] : List UInt8)), v2.2))))))))
theorem e5 (t : Ty9d3b88) : evF (stpT Tryz.prog T26 K26) Tryz.f5 p5 r5 .d t = (o5 t) := by kernel_rfl
theorem fo5 : FOk Tryz.prog 5 ⟨p5, r5, fun t => (o5 t)⟩ := FOk.run_eq (evF_ok (h := .d) (by kernel_rfl) (by kernel_rfl) (by kernel_rfl)) e5
def T27 : Tbl := (5, ⟨p5, r5, fun t => (o5 t)⟩) :: T26
theorem K27 : TOk Tryz.prog T27 := .cons K26 fo5
def p36 : Sch := ⟨[(0, .v (.c (.s))), (1, .v (.c (.i .u8)))], []⟩
def r36 : List Sch := [⟨[(0, .v (.c (.i .i64)))], []⟩]
def o36 (a0 : List UInt8) (a1 : Int) : Option Int :=
 (bd (α := Int) (o55 a0 a1) (fun v1 => (some v1)))
theorem e36 (t : List UInt8 × Int) : evF (stpT Tryz.prog T27 K27) Tryz.f36 p36 r36 .d t = (o36 t.1 t.2) := by kernel_rfl
theorem fo36 : FOk Tryz.prog 36 ⟨p36, r36, fun t => (o36 t.1 t.2)⟩ := FOk.run_eq (evF_ok (h := .d) (by kernel_rfl) (by kernel_rfl) (by kernel_rfl)) e36
def T28 : Tbl := (36, ⟨p36, r36, fun t => (o36 t.1 t.2)⟩) :: T27
theorem K28 : TOk Tryz.prog T28 := .cons K27 fo36
def Ss07d524 : SSh := .v (.agg [.i .u8, .i .i64, .s, .s, .s, .s, .i .i64, .i .i64, .i .i64, .i .i64, .i .i64, .i .u8])
abbrev Ty90edd6 : Type := ((Int × Int × List UInt8) × List UInt8 × List UInt8 × List UInt8) × (Int × Int × Int) × Int × Int × Int
def p37 : Sch := ⟨[(0, Ss07d524), (1, .v (.c (.i .u8)))], []⟩
def r37 : List Sch := [⟨[(0, .v (.c (.b)))], []⟩]
def o37 (a0 : Ty90edd6) (a1 : Int) : Option Bool :=
 (cnd (a1 == (97 : Int)) (some (a0.1.1.2.1 == (0 : Int))) (cnd (a1 == (114 : Int)) (some (a0.1.1.2.2 == ([] : List UInt8))) (cnd (a1 == (110 : Int)) (some (a0.1.2.1 == ([] : List UInt8))) (cnd (a1 == (119 : Int)) (some (a0.1.2.2.1 == ([] : List UInt8))) (cnd (a1 == (116 : Int)) (some (a0.1.2.2.2 == ([] : List UInt8))) (cnd (a1 == (104 : Int)) (some ((a0.2.1.1 == (0 : Int)) && (a0.2.1.2.1 == (0 : Int)))) (cnd (a1 == (115 : Int)) (some (a0.2.1.2.2 == (0 : Int))) (cnd (a1 == (99 : Int)) (some (a0.2.2.1 == (0 : Int))) (cnd (a1 == (100 : Int)) (some (a0.2.2.2.1 == (0 : Int))) (some (a0.2.2.2.2 == (0 : Int))))))))))))
theorem e37 (t : Ty90edd6 × Int) : evF (stpT Tryz.prog T28 K28) Tryz.f37 p37 r37 .d t = (o37 t.1 t.2) := by kernel_rfl
theorem fo37 : FOk Tryz.prog 37 ⟨p37, r37, fun t => (o37 t.1 t.2)⟩ := FOk.run_eq (evF_ok (h := .d) (by kernel_rfl) (by kernel_rfl) (by kernel_rfl)) e37
def T29 : Tbl := (37, ⟨p37, r37, fun t => (o37 t.1 t.2)⟩) :: T28
theorem K29 : TOk Tryz.prog T29 := .cons K28 fo37
def o56_s0 : Sch := ⟨[(14, .v (.c (.b)))], []⟩
def p56 : Sch := ⟨[(0, .v (.c (.i .i64))), (1, .v (.c (.i .i64))), (2, .v (.c (.i .i64)))], []⟩
def r56 : List Sch := [⟨[(0, .v (.c (.i .i64)))], []⟩]
def o56 (a0 : Int) (a1 : Int) (a2 : Int) : Option Int :=
 (bd (α := Bool) (cnd (decide (a0 < a1)) (some true) (some (decide (a0 > a2)))) (fun v1 => (cnd v1 (some (2 : Int)) (some (0 : Int)))))
def h56 : HC := (.s .d (.s (.s (.j false [o56_s0] .d) .d) .d))
theorem e56 (t : Int × Int × Int) : evF (stpT Tryz.prog T29 K29) Tryz.f56 p56 r56 h56 t = (o56 t.1 t.2.1 t.2.2) := by kernel_rfl
theorem fo56 : FOk Tryz.prog 56 ⟨p56, r56, fun t => (o56 t.1 t.2.1 t.2.2)⟩ := FOk.run_eq (evF_ok (h := h56) (by kernel_rfl) (by kernel_rfl) (by kernel_rfl)) e56
def T30 : Tbl := (56, ⟨p56, r56, fun t => (o56 t.1 t.2.1 t.2.2)⟩) :: T29
theorem K30 : TOk Tryz.prog T30 := .cons K29 fo56
def p58 : Sch := ⟨[(0, .v (.c (.b)))], []⟩
def r58 : List Sch := [⟨[(0, .v (.c (.i .i64)))], []⟩]
def o58 (a0 : Bool) : Option Int :=
 (cnd (!a0) (some (5 : Int)) (some (0 : Int)))
theorem e58 (t : Bool) : evF (stpT Tryz.prog T30 K30) Tryz.f58 p58 r58 .d t = (o58 t) := by kernel_rfl
theorem fo58 : FOk Tryz.prog 58 ⟨p58, r58, fun t => (o58 t)⟩ := FOk.run_eq (evF_ok (h := .d) (by kernel_rfl) (by kernel_rfl) (by kernel_rfl)) e58
def T31 : Tbl := (58, ⟨p58, r58, fun t => (o58 t)⟩) :: T30
theorem K31 : TOk Tryz.prog T31 := .cons K30 fo58
def o59_s0 : Sch := ⟨[(2, .v (.c (.b)))], []⟩
def p59 : Sch := ⟨[(0, .v (.c (.s)))], []⟩
def r59 : List Sch := [⟨[(0, .v (.c (.b)))], []⟩]
def o59 (a0 : List UInt8) : Option Bool :=
 (bd (α := (List UInt8 × List UInt8 × Bool)) (o50 a0 ([47] : List UInt8)) (fun v1 => (bd (α := Bool) (bd (α := Bool) (o51 v1.1 (6 : Int)) (fun v2 => (cnd v2 (cnd (!v1.2.2) (some true) (bd (α := Bool) (o51 v1.2.1 (6 : Int)) (fun v3 => (some v3)))) (some false)))) (fun v4 => (some v4)))))
def h59 : HC := (.s .d (.s .d (.s (.j false [o59_s0] .d) .d)))
theorem e59 (t : List UInt8) : evF (stpT Tryz.prog T31 K31) Tryz.f59 p59 r59 h59 t = (o59 t) := by kernel_rfl
theorem fo59 : FOk Tryz.prog 59 ⟨p59, r59, fun t => (o59 t)⟩ := FOk.run_eq (evF_ok (h := h59) (by kernel_rfl) (by kernel_rfl) (by kernel_rfl)) e59
def T32 : Tbl := (59, ⟨p59, r59, fun t => (o59 t)⟩) :: T31
theorem K32 : TOk Tryz.prog T32 := .cons K31 fo59
def o38_s0 : Sch := ⟨[(4, .v (.c (.i .i64)))], []⟩
def o38_s1 : Sch := ⟨[(81, .v (.c (.b)))], []⟩
def o38_s2 : Sch := ⟨[(112, .v (.c (.b)))], []⟩
def p38 : Sch := ⟨[(0, Ss07d524), (1, .v (.c (.i .u8)))], []⟩
def r38 : List Sch := [⟨[(0, .v (.c (.i .i64)))], []⟩]
def o38 (a0 : Ty90edd6) (a1 : Int) : Option Int :=
 (cnd (a1 == (97 : Int)) (bd (α := Int) (o56 a0.1.1.2.1 (0 : Int) (60 : Int)) (fun v1 => (some v1))) (cnd (a1 == (114 : Int)) (bd (α := (List UInt8 × List UInt8 × Int)) (o57 a0.1.1.2.2) (fun v2 => (bd (α := Int) (o58 (v2.2.2 == (0 : Int))) (fun v3 => (some v3))))) (cnd (a1 == (110 : Int)) (cnd (a0.1.1.1 == (12 : Int)) (bd (α := Bool) (o59 a0.1.2.1) (fun v4 => (bd (α := Int) (o58 v4) (fun v5 => (some v5))))) (bd (α := Bool) (o51 a0.1.2.1 (8 : Int)) (fun v6 => (bd (α := Int) (o58 v6) (fun v7 => (some v7)))))) (cnd (a1 == (119 : Int)) (bd (α := Int) (cnd (a0.1.2.2.1 == ([] : List UInt8)) (bd (α := Int) (o58 true) (fun v8 => (some v8))) (bd (α := Bool) (o51 a0.1.2.2.1 (6 : Int)) (fun v9 => (bd (α := Int) (o58 v9) (fun v10 => (some v10)))))) (fun v11 => (some v11))) (cnd (a1 == (116 : Int)) (bd (α := Int) (cnd (a0.1.2.2.2 == ([] : List UInt8)) (bd (α := Int) (o58 true) (fun v12 => (some v12))) (bd (α := Bool) (o51 a0.1.2.2.2 (8 : Int)) (fun v13 => (bd (α := Int) (o58 v13) (fun v14 => (some v14)))))) (fun v15 => (some v15))) (cnd (a1 == (104 : Int)) (bd (α := Bool) (cnd (decide (a0.2.1.1 < (-200000 : Int))) (some true) (cnd (decide (a0.2.1.1 > a0.2.1.2.1)) (some true) (some (decide (a0.2.1.2.1 > (6000000 : Int)))))) (fun v16 => (cnd v16 (some (2 : Int)) (some (0 : Int))))) (cnd (a1 == (115 : Int)) (bd (α := Int) (o56 a0.2.1.2.2 (0 : Int) (1000 : Int)) (fun v17 => (some v17))) (cnd (a1 == (99 : Int)) (bd (α := Int) (o56 a0.2.2.1 (0 : Int) (129599999 : Int)) (fun v18 => (some v18))) (cnd (a1 == (100 : Int)) (cnd (a0.1.1.1 == (6 : Int)) (bd (α := Int) (o56 a0.2.2.2.1 (0 : Int) (120000 : Int)) (fun v19 => (some v19))) (bd (α := Int) (o56 a0.2.2.2.1 (1 : Int) (2000000 : Int)) (fun v20 => (some v20)))) (cnd (a1 == (117 : Int)) (bd (α := Bool) (cnd (a0.2.2.2.2 != (1 : Int)) (some (a0.2.2.2.2 != (2 : Int))) (some false)) (fun v21 => (cnd v21 (some (1 : Int)) (some (0 : Int))))) (some (0 : Int))))))))))))
def h38 : HC := (.s .d (.s (.s .d (.b (.s .d (.c .d (.s .d (.c .d (.s .d (.c .d (.s .d (.c (.s (.j false [o38_s0] .d) .d) (.s .d (.c (.s (.j false [o38_s0] .d) .d) (.s .d (.c (.s (.j false [o38_s1] .d) .d) (.s .d (.c .d (.s .d (.c .d (.s .d (.c .d (.s .d (.c (.s (.j false [o38_s2] .d) .d) .d)))))))))))))))))))))) .d))
theorem e38 (t : Ty90edd6 × Int) : evF (stpT Tryz.prog T32 K32) Tryz.f38 p38 r38 h38 t = (o38 t.1 t.2) := by kernel_rfl
theorem fo38 : FOk Tryz.prog 38 ⟨p38, r38, fun t => (o38 t.1 t.2)⟩ := FOk.run_eq (evF_ok (h := h38) (by kernel_rfl) (by kernel_rfl) (by kernel_rfl)) e38
def T33 : Tbl := (38, ⟨p38, r38, fun t => (o38 t.1 t.2)⟩) :: T32
theorem K33 : TOk Tryz.prog T33 := .cons K32 fo38
def Bs07d959 : BSh := .cells 36 [.i .u8, .i .i64, .s, .s, .s, .s, .i .i64, .i .i64, .i .i64, .i .i64, .i .i64, .i .u8]
def o20_s0 : Sch := ⟨[(1, .v (.c (.ptr 0 0))), (14, .v (.c (.b)))], [Bs07d959]⟩
def o20_s1 : Sch := ⟨[(1, .v (.c (.ptr 0 0))), (3, .v (.c (.s))), (21, .v (.c (.ro .y true))), (22, .v (.c (.i .i64))), (23, .v (.c (.i .i64)))], [Bs07d959]⟩
def p20 : Sch := ⟨[(0, Ss07d524)], []⟩
def r20 : List Sch := [⟨[(0, .v (.c (.i .i64)))], []⟩]
def o20 (a0 : Ty90edd6) : Option Int :=
 (bd (α := (Bool × Ty90edd6)) (cnd (decide (a0.1.1.1 < (1 : Int))) (some (true, a0)) (some ((decide (a0.1.1.1 > (12 : Int))), a0))) (fun v1 => (cnd v1.1 (some (17 : Int)) (gd (decide ((0 : Int) ≤ v1.2.1.1.1 ∧ v1.2.1.1.1 < (13 : Int))) (gd (decide (0 < ([(u8 (97 : Int)), (u8 (114 : Int)), (u8 (110 : Int)), (u8 (119 : Int)), (u8 (116 : Int)), (u8 (104 : Int)), (u8 (115 : Int)), (u8 (99 : Int)), (u8 (100 : Int)), (u8 (117 : Int))] : List UInt8).length)) (loopO (σ := (List UInt8 × List UInt8) × Int × Int × Ty90edd6) fuelN (fun (v3 : (List UInt8 × List UInt8) × Int × Int × Ty90edd6) => (cnd (decide (v3.2.2.1 < v3.2.1)) (gd (decide ((0 : Int) ≤ v3.2.2.1 ∧ v3.2.2.1 < ((v3.1.2.length : Nat) : Int))) (bd (α := Int) (o36 v3.1.1 ((UInt8.toNat (List.getD v3.1.2 v3.2.2.1.toNat (0 : UInt8)) : Nat) : Int)) (fun v4 => (cnd (decide (v4 < (0 : Int))) (bd (α := Bool) (o37 v3.2.2.2 ((UInt8.toNat (List.getD v3.1.2 v3.2.2.1.toNat (0 : UInt8)) : Nat) : Int)) (fun v5 => (cnd (!v5) (dnO (some (1 : Int))) (some (Ctl.go (v3.1, v3.2.1, (IntKind.wrap .i64 (v3.2.2.1 + (1 : Int))), v3.2.2.2)))))) (bd (α := Int) (o38 v3.2.2.2 ((UInt8.toNat (List.getD v3.1.2 v3.2.2.1.toNat (0 : UInt8)) : Nat) : Int)) (fun v6 => (cnd (v6 != (0 : Int)) (dnO (some v6)) (some (Ctl.go (v3.1, v3.2.1, (IntKind.wrap .i64 (v3.2.2.1 + (1 : Int))), v3.2.2.2)))))))))) (dnO (some (0 : Int))))) (((List.getD gl0 v1.2.1.1.1.toNat (([] : List UInt8), ([] : List UInt8))).2, ([(u8 (97 : Int)), (u8 (114 : Int)), (u8 (110 : Int)), (u8 (119 : Int)), (u8 (116 : Int)), (u8 (104 : Int)), (u8 (115 : Int)), (u8 (99 : Int)), (u8 (100 : Int)), (u8 (117 : Int))] : List UInt8)), ((([(u8 (97 : Int)), (u8 (114 : Int)), (u8 (110 : Int)), (u8 (119 : Int)), (u8 (116 : Int)), (u8 (104 : Int)), (u8 (115 : Int)), (u8 (99 : Int)), (u8 (100 : Int)), (u8 (117 : Int))] : List UInt8).length : Nat) : Int), (0 : Int), v1.2)))))))
def h20 : HC := (.s .d (.s (.s (.j false [o20_s0] .d) .d) (.s .d (.s (.s .d (.b (.l [o20_s1] .d))) .d))))
theorem e20 (t : Ty90edd6) : evF (stpT Tryz.prog T33 K33) Tryz.f20 p20 r20 h20 t = (o20 t) := by kernel_rfl
theorem fo20 : FOk Tryz.prog 20 ⟨p20, r20, fun t => (o20 t)⟩ := FOk.run_eq (evF_ok (h := h20) (by kernel_rfl) (by kernel_rfl) (by kernel_rfl)) e20
def T34 : Tbl := (20, ⟨p20, r20, fun t => (o20 t)⟩) :: T33
theorem K34 : TOk Tryz.prog T34 := .cons K33 fo20
def o64_s0 : Sch := ⟨[(2, .v (.c (.b)))], []⟩
def p64 : Sch := ⟨[(0, Ss9a7268)], []⟩
def r64 : List Sch := [⟨[(0, .v (.c (.b)))], []⟩]
def o64 (a0 : Ty7661d1) : Option Bool :=
 (bd (α := Bool) (cnd (!a0.1.1.1.1) (bd (α := Bool) (o34 a0.1.1.1.2) (fun v1 => (some v1))) (some false)) (fun v2 => (some v2)))
theorem e64 (t : Ty7661d1) : evF (stpT Tryz.prog T34 K34) Tryz.f64 p64 r64 (.s .d (.s (.j false [o64_s0] .d) .d)) t = (o64 t) := by kernel_rfl
theorem fo64 : FOk Tryz.prog 64 ⟨p64, r64, fun t => (o64 t)⟩ := FOk.run_eq (evF_ok (h := (.s .d (.s (.j false [o64_s0] .d) .d))) (by kernel_rfl) (by kernel_rfl) (by kernel_rfl)) e64
def T35 : Tbl := (64, ⟨p64, r64, fun t => (o64 t)⟩) :: T34
theorem K35 : TOk Tryz.prog T35 := .cons K34 fo64
def o60_s0 : Sch := ⟨[(0, Sse569ae), (2, .v (.c (.s))), (7, .v (.c (.i .i64))), (30, .v (.c (.b)))], []⟩
def o60_s1 : Sch := ⟨[(0, Sse569ae), (2, .v (.c (.s))), (7, .v (.c (.i .i64)))], []⟩
def p60 : Sch := ⟨[(0, Sse569ae), (1, .v (.c (.i .i64))), (2, .v (.c (.s)))], []⟩
def r60 : List Sch := [⟨[(0, .v (.c (.i .i64)))], []⟩]
def o60 (a0 : List Tya2e0c9) (a1 : Int) (a2 : List UInt8) : Option Int :=
 (loopO (σ := List Tya2e0c9 × List UInt8 × Int) fuelN (fun (v1 : List Tya2e0c9 × List UInt8 × Int) => (cnd (decide (v1.2.2 < ((v1.1.length : Nat) : Int))) (bd (α := ((List Tya2e0c9 × List UInt8) × Int × Bool)) (gd (decide ((0 : Int) ≤ v1.2.2 ∧ v1.2.2 < ((v1.1.length : Nat) : Int))) (bd (α := Tya2e0c9) (some (List.getD v1.1 v1.2.2.toNat Df4c50a0)) (fun v2 => (bd (α := Bool) (o64 ((((v2.1, v2.2.1.1), v2.2.1.2.1, v2.2.1.2.2.1, v2.2.1.2.2.2.1), (v2.2.1.2.2.2.2.1, v2.2.1.2.2.2.2.2.1), v2.2.1.2.2.2.2.2.2.1, v2.2.1.2.2.2.2.2.2.2.1, v2.2.1.2.2.2.2.2.2.2.2.1), (v2.2.1.2.2.2.2.2.2.2.2.2.1, v2.2.1.2.2.2.2.2.2.2.2.2.2.1, v2.2.1.2.2.2.2.2.2.2.2.2.2.2, v2.2.2.1.1), (v2.2.2.1.2, v2.2.2.2.1.1), v2.2.2.2.1.2, v2.2.2.2.2)) (fun v3 => (cnd v3 (gd (decide ((0 : Int) ≤ v1.2.2 ∧ v1.2.2 < ((v1.1.length : Nat) : Int))) (some ((v1.1, v1.2.1), v1.2.2, (((((List.getD v1.1 v1.2.2.toNat Df4c50a0).2).1).2).1 == v1.2.1)))) (some ((v1.1, v1.2.1), v1.2.2, false)))))))) (fun v4 => (cnd v4.2.2 (dnO (some v4.2.1)) (some (Ctl.go (v4.1.1, v4.1.2, (IntKind.wrap .i64 (v4.2.1 + (1 : Int))))))))) (dnO (some (-1 : Int))))) (a0, a2, (maxI a1 (0 : Int))))
def h60 : HC := (.s .d (.s (.s .d (.b (.l [o60_s1] (.s .d (.s (.b (.s (.j false [o60_s0] .d) .d)) .d))))) .d))
theorem e60 (t : List Tya2e0c9 × Int × List UInt8) : evF (stpT Tryz.prog T35 K35) Tryz.f60 p60 r60 h60 t = (o60 t.1 t.2.1 t.2.2) := by kernel_rfl
theorem fo60 : FOk Tryz.prog 60 ⟨p60, r60, fun t => (o60 t.1 t.2.1 t.2.2)⟩ := FOk.run_eq (evF_ok (h := h60) (by kernel_rfl) (by kernel_rfl) (by kernel_rfl)) e60
def T36 : Tbl := (60, ⟨p60, r60, fun t => (o60 t.1 t.2.1 t.2.2)⟩) :: T35
theorem K36 : TOk Tryz.prog T36 := .cons K35 fo60
def Bsf6d837 : BSh := .cells 76 [.s, .i .i64, .i .i64, .i .i64, .i .i64, .i .i64, .cst (.slice none 0 0), .cst (.slice none 0 0), .cst (.slice none 0 0), .s, .s, .ro (.p .b (.p (.p (.i .u8) (.p .s (.p .s (.p (.i .u8) (.p .b (.p (.i .i64) (.p (.i .i64) (.p (.i .i64) (.p (.i .i64) (.p (.p (.i .i64) (.i .i64)) (.p (.i .i64) (.i .i64)))))))))))) (.p (.p (.i .i64) (.i .i64)) (.p (.p (.i .i64) (.i .i64)) (.p (.i .u8) .s))))) true, .i .i64, .i .u8, .i .i64, .s, .s, .s, .s, .i .i64, .i .i64, .i .i64, .i .i64, .i .i64, .i .u8, .cst (.slice none 0 0)]
def Bsae0beb : BSh := .cells 76 [.s, .i .i64, .i .i64, .i .i64, .i .i64, .i .i64, .cst (.slice none 0 0), .cst (.slice none 0 0), .cst (.slice none 0 0), .s, .s, .ro (.p .b (.p (.p (.i .u8) (.p .s (.p .s (.p (.i .u8) (.p .b (.p (.i .i64) (.p (.i .i64) (.p (.i .i64) (.p (.i .i64) (.p (.p (.i .i64) (.i .i64)) (.p (.i .i64) (.i .i64)))))))))))) (.p (.p (.i .i64) (.i .i64)) (.p (.p (.i .i64) (.i .i64)) (.p (.i .u8) .s))))) true, .i .i64, .i .u8, .i .i64, .s, .s, .s, .s, .i .i64, .i .i64, .i .i64, .i .i64, .i .i64, .i .u8, .own 1]
abbrev Ty58ac1c : Type := (((List UInt8 × Int) × Int × Int × Int) × (Int × List UInt8 × List UInt8) × List Tya2e0c9 × Int × Int) × ((Int × List UInt8) × List UInt8 × List UInt8 × List UInt8) × (Int × Int × Int) × Int × Int × Int
def p61 : Sch := ⟨[(0, .v (.c (.ptr 0 0))), (1, Sse569ae)], [Bsf6d837]⟩
def r61 : List Sch := [⟨[(0, .tup [])], [Bsae0beb, Bs214155]⟩]
def o61 (a0 : List Tya2e0c9) (a1 : Ty58ac1c) : Option (Ty58ac1c × List Tya2e0c9) :=
 (gd (decide (a0.length * 176 ≤ 140737488355328)) (some (a1, a0)))
theorem e61 (t : List Tya2e0c9 × Ty58ac1c) : evF (stpT Tryz.prog T36 K36) Tryz.f61 p61 r61 .d t = (o61 t.1 t.2) := by kernel_rfl
theorem fo61 : FOk Tryz.prog 61 ⟨p61, r61, fun t => (o61 t.1 t.2)⟩ := FOk.run_eq (evF_ok (h := .d) (by kernel_rfl) (by kernel_rfl) (by kernel_rfl)) e61
def T37 : Tbl := (61, ⟨p61, r61, fun t => (o61 t.1 t.2)⟩) :: T36
theorem K37 : TOk Tryz.prog T37 := .cons K36 fo61
def Ss9591cc : SSh := .v (.agg [.b, .ic .u8 (4), .s, .s, .ic .u8 (0), .b, .ic .i64 (0), .ic .i64 (0), .ic .i64 (0), .ic .i64 (0), .i .i64, .i .i64, .i .i64, .i .i64, .i .i64, .i .i64, .ic .i64 (0), .ic .i64 (0), .i .u8, .s])
abbrev Tyda5236 : Type := ((Bool × List UInt8 × List UInt8) × Bool × Int × Int) × (Int × Int × Int) × Int × Int × List UInt8
def p62 : Sch := ⟨[(0, Ss9a7268)], []⟩
def r62 : List Sch := [⟨[(0, Ss9591cc)], []⟩]
def o62 (a0 : Ty7661d1) : Option Tyda5236 :=
 (some (((a0.1.1.1.1, a0.1.1.2.1, ([] : List UInt8)), a0.1.2.1.1, a0.2.1.1), a0.2.1.2, a0.2.2.1.1, a0.2.2.2.2))
theorem e62 (t : Ty7661d1) : evF (stpT Tryz.prog T37 K37) Tryz.f62 p62 r62 .d t = (o62 t) := by kernel_rfl
theorem fo62 : FOk Tryz.prog 62 ⟨p62, r62, fun t => (o62 t)⟩ := FOk.run_eq (evF_ok (h := .d) (by kernel_rfl) (by kernel_rfl) (by kernel_rfl)) e62
def T38 : Tbl := (62, ⟨p62, r62, fun t => (o62 t)⟩) :: T37
theorem K38 : TOk Tryz.prog T38 := .cons K37 fo62
def Bsa95c53 : BSh := .cells 76 [.s, .i .i64, .i .i64, .i .i64, .i .i64, .i .i64, .cst (.slice none 0 0), .cst (.slice none 0 0), .cst (.slice none 0 0), .s, .s, .ro (.p .b (.p (.p (.i .u8) (.p .s (.p .s (.p (.i .u8) (.p .b (.p (.i .i64) (.p (.i .i64) (.p (.i .i64) (.p (.i .i64) (.p (.p (.i .i64) (.i .i64)) (.p (.i .i64) (.i .i64)))))))))))) (.p (.p (.i .i64) (.i .i64)) (.p (.p (.i .i64) (.i .i64)) (.p (.i .u8) .s))))) true, .i .i64, .i .u8, .i .i64, .s, .s, .s, .s, .i .i64, .i .i64, .i .i64, .i .i64, .i .i64, .i .u8, .own 2]
def p61v1 : Sch := ⟨[(0, .v (.c (.ptr 0 0))), (1, Sse569ae)], [Bsae0beb, Bs214155]⟩
def r61v1 : List Sch := [⟨[(0, .tup [])], [Bsa95c53, .no, Bs214155]⟩]
def o61v1 (a0 : List Tya2e0c9) (a1 : Ty58ac1c) (a2 : List Tya2e0c9) : Option (Ty58ac1c × List Tya2e0c9) :=
 (gd (decide ((a2.length + a0.length) * 176 ≤ 140737488355328)) (some (a1, (a2 ++ a0))))
theorem e61v1 (t : List Tya2e0c9 × Ty58ac1c × List Tya2e0c9) : evF (stpT Tryz.prog T38 K38) Tryz.f61 p61v1 r61v1 .d t = (o61v1 t.1 t.2.1 t.2.2) := by kernel_rfl
theorem fo61v1 : FOk Tryz.prog 61 ⟨p61v1, r61v1, fun t => (o61v1 t.1 t.2.1 t.2.2)⟩ := FOk.run_eq (evF_ok (h := .d) (by kernel_rfl) (by kernel_rfl) (by kernel_rfl)) e61v1
def T39 : Tbl := (61, ⟨p61v1, r61v1, fun t => (o61v1 t.1 t.2.1 t.2.2)⟩) :: T38
theorem K39 : TOk Tryz.prog T39 := .cons K38 fo61v1
def Ss77bd33 : SSh := .v (.c (.cap (.fn 113) (.ptr 0 0)))
def o112_s0 : Sch := ⟨[(0, .v (.c (.cst (.slice none 0 0)))), (1, Ss77bd33), (7, .v (.c (.ic .i64 (0)))), (8, .v (.c (.ic .i64 (0))))], [.cells 9 [.s]]⟩
def p112 : Sch := ⟨[(0, .v (.c (.cst (.slice none 0 0)))), (1, Ss77bd33)], [.cells 9 [.s]]⟩
def r112 : List Sch := [⟨[(0, .v (.c (.ic .i64 (-1))))], [.cells 9 [.s]]⟩]
def o112 (a0 : List UInt8) : Option (List UInt8) :=
 (loopO (σ := List UInt8) fuelN (fun (v1 : List UInt8) => (dnO (some v1))) a0)
def h112 : HC := (.s .d (.s (.s .d (.b (.l [o112_s0] .d))) .d))
theorem e112 (t : List UInt8) : evF (stpT Tryz.prog T39 K39) Tryz.f112 p112 r112 h112 t = (o112 t) := by kernel_rfl
theorem fo112 : FOk Tryz.prog 112 ⟨p112, r112, fun t => (o112 t)⟩ := FOk.run_eq (evF_ok (h := h112) (by kernel_rfl) (by kernel_rfl) (by kernel_rfl)) e112
def T40 : Tbl := (112, ⟨p112, r112, fun t => (o112 t)⟩) :: T39
theorem K40 : TOk Tryz.prog T40 := .cons K39 fo112
def Ss42573b : SSh := .tup [.agg [.s, .s, .ic .u8 (0), .ic .i64 (0), .ic .i64 (0), .ic .i64 (0), .ic .i64 (0)], .c (.bc false)]
def p100 : Sch := ⟨[(0, .v (.c (.cst (.slice none 0 0)))), (1, .v (.c (.s)))], []⟩
def r100 : List Sch := [⟨[(0, Ss42573b)], []⟩]
def o100 (a0 : List UInt8) : Option (List UInt8 × List UInt8) :=
 (bd (α := (List UInt8)) (o112 a0) (fun v1 => (some (([] : List UInt8), ([] : List UInt8)))))
theorem e100 (t : List UInt8) : evF (stpT Tryz.prog T40 K40) Tryz.f100 p100 r100 .d t = (o100 t) := by kernel_rfl
theorem fo100 : FOk Tryz.prog 100 ⟨p100, r100, fun t => (o100 t)⟩ := FOk.run_eq (evF_ok (h := .d) (by kernel_rfl) (by kernel_rfl) (by kernel_rfl)) e100
def T41 : Tbl := (100, ⟨p100, r100, fun t => (o100 t)⟩) :: T40
theorem K41 : TOk Tryz.prog T41 := .cons K40 fo100
def Ss6de90b : SSh := .v (.agg [.s, .i .i64, .i .i64, .i .i64, .i .i64, .i .i64, .cst (.slice none 0 0), .cst (.slice none 0 0), .cst (.slice none 0 0)])
def Ssab20f8 : SSh := .tup [.agg [.s, .s, .ic .u8 (0), .ic .i64 (0), .ic .i64 (0), .ic .i64 (0), .ic .i64 (0)], .c (.ic .i64 (6))]
abbrev Tyc0a991 : Type := (List UInt8 × Int × Int) × Int × Int × Int
def p85 : Sch := ⟨[(0, Ss6de90b), (1, .v (.c (.s)))], []⟩
def r85 : List Sch := [⟨[(0, Ssab20f8)], []⟩]
def o85 (a0 : Tyc0a991) (a1 : List UInt8) : Option (List UInt8 × List UInt8) :=
 (bd (α := (List UInt8 × List UInt8)) (o100 a1) (fun v1 => (some (([] : List UInt8), ([] : List UInt8)))))
theorem e85 (t : Tyc0a991 × List UInt8) : evF (stpT Tryz.prog T41 K41) Tryz.f85 p85 r85 .d t = (o85 t.1 t.2) := by kernel_rfl
theorem fo85 : FOk Tryz.prog 85 ⟨p85, r85, fun t => (o85 t.1 t.2)⟩ := FOk.run_eq (evF_ok (h := .d) (by kernel_rfl) (by kernel_rfl) (by kernel_rfl)) e85
def T42 : Tbl := (85, ⟨p85, r85, fun t => (o85 t.1 t.2)⟩) :: T41
theorem K42 : TOk Tryz.prog T42 := .cons K41 fo85
def Ss97df99 : SSh := .tup [.agg [.ic .i64 (0), .ic .i64 (0)], .c (.ic .i64 (6))]
def p81 : Sch := ⟨[(0, Ss6de90b), (1, .v (.c (.s)))], []⟩
def r81 : List Sch := [⟨[(0, Ss97df99)], []⟩]
def o81 (a0 : Tyc0a991) (a1 : List UInt8) : Option Unit :=
 (bd (α := (List UInt8 × List UInt8)) (o85 a0 a1) (fun v1 => (some ())))
theorem e81 (t : Tyc0a991 × List UInt8) : evF (stpT Tryz.prog T42 K42) Tryz.f81 p81 r81 .d t = (o81 t.1 t.2) := by kernel_rfl
theorem fo81 : FOk Tryz.prog 81 ⟨p81, r81, fun t => (o81 t.1 t.2)⟩ := FOk.run_eq (evF_ok (h := .d) (by kernel_rfl) (by kernel_rfl) (by kernel_rfl)) e81
def T43 : Tbl := (81, ⟨p81, r81, fun t => (o81 t.1 t.2)⟩) :: T42
theorem K43 : TOk Tryz.prog T43 := .cons K42 fo81
def Ss306de7 : SSh := .v (.c (.ro (.p (.i .u8) (.p .s (.p .s (.p (.i .u8) (.p .b (.p (.i .i64) (.p (.i .i64) (.p (.i .i64) (.p (.i .i64) (.p (.p (.i .i64) (.i .i64)) (.p (.i .i64) (.i .i64)))))))))))) false))
def Bs27229b : BSh := .cells 47 [.s, .i .i64, .i .i64, .i .i64, .i .i64, .i .i64, .cst (.slice none 0 0), .cst (.slice none 0 0), .cst (.slice none 0 0)]
abbrev Tyab9aec : Type := Int × List UInt8 × List UInt8 × Int × Bool × Int × Int × Int × Int × (Int × Int) × Int × Int
abbrev Ty5d784f : Type := (Int × List UInt8 × List Tyab9aec) × (Int × Int) × Tyc0a991 × List Tya2e0c9
def Df6c39f5 : Tyab9aec := ((0 : Int), (([] : List UInt8), (([] : List UInt8), ((0 : Int), (false, ((0 : Int), ((0 : Int), ((0 : Int), ((0 : Int), (((0 : Int), (0 : Int)), ((0 : Int), (0 : Int))))))))))))
def o67_s0 : Sch := ⟨[(2, .v (.c (.i .u8))), (3, .v (.c (.s))), (4, .v (.c (.ptr 0 0))), (10, .v (.c (.own 1))), (24, Ss306de7), (25, .v (.c (.i .i64))), (26, .v (.c (.i .i64)))], [Bs27229b, Bs214155]⟩
def p67 : Sch := ⟨[(0, Ss6de90b), (1, Ss306de7), (2, .v (.c (.i .u8))), (3, .v (.c (.s)))], []⟩
def r67 : List Sch := [⟨[(0, .tup [.c (.own 0), .c (.i .i64)])], [Bs214155]⟩]
def o67 (a0 : Tyc0a991) (a1 : List Tyab9aec) (a2 : Int) (a3 : List UInt8) : Option (Int × List Tya2e0c9) :=
 (bd (α := Bool) (o29 a2) (fun v1 => (cnd (!v1) (some ((17 : Int), ([] : List Tya2e0c9))) (bd (α := Bool) (o30 a3) (fun v2 => (cnd (!v2) (some ((5 : Int), ([] : List Tya2e0c9))) (loopO (σ := Ty5d784f) fuelN (fun (v4 : Ty5d784f) => (cnd (decide (v4.2.1.2 < v4.2.1.1)) (gd (decide ((0 : Int) ≤ v4.2.1.2 ∧ v4.2.1.2 < ((v4.1.2.2.length : Nat) : Int))) (bd (α := Tyab9aec) (some (List.getD v4.1.2.2 v4.2.1.2.toNat Df6c39f5)) (fun v5 => (bd (α := Int) (o28 (((v5.1, v5.2.1, v5.2.2.1), v5.2.2.2.1, v5.2.2.2.2.1, v5.2.2.2.2.2.1), (v5.2.2.2.2.2.2.1, v5.2.2.2.2.2.2.2.1, v5.2.2.2.2.2.2.2.2.1), v5.2.2.2.2.2.2.2.2.2)) (fun v6 => (cnd (v6 != (0 : Int)) (dnO (some (v6, ([] : List Tya2e0c9)))) (cnd (!(v5.2.1 == ([] : List UInt8))) (bd (α := Unit) (o81 v4.2.2.1 v5.2.1) (fun v7 => (dnO (some ((6 : Int), ([] : List Tya2e0c9)))))) (cnd (!(v5.2.2.1 == ([] : List UInt8))) (bd (α := Unit) (o81 v4.2.2.1 v5.2.2.1) (fun v8 => (dnO (some ((6 : Int), ([] : List Tya2e0c9)))))) (gd (decide ((v4.2.2.2.length + ([(false, ((v5.1, (v5.2.1, (v5.2.2.1, (v5.2.2.2.1, (v5.2.2.2.2.1, (v5.2.2.2.2.2.1, (v5.2.2.2.2.2.2.1, (v5.2.2.2.2.2.2.2.1, (v5.2.2.2.2.2.2.2.2.1, ((v5.2.2.2.2.2.2.2.2.2.1.1, v5.2.2.2.2.2.2.2.2.2.1.2), (v5.2.2.2.2.2.2.2.2.2.2.1, v5.2.2.2.2.2.2.2.2.2.2.2))))))))))), (((0 : Int), (0 : Int)), (((0 : Int), (0 : Int)), (v4.1.1, v4.1.2.1)))))] : List Tya2e0c9).length) * 176 ≤ 140737488355328)) (some (Ctl.go (v4.1, (v4.2.1.1, (IntKind.wrap .i64 (v4.2.1.2 + (1 : Int)))), v4.2.2.1, (v4.2.2.2 ++ ([(false, ((v5.1, (v5.2.1, (v5.2.2.1, (v5.2.2.2.1, (v5.2.2.2.2.1, (v5.2.2.2.2.2.1, (v5.2.2.2.2.2.2.1, (v5.2.2.2.2.2.2.2.1, (v5.2.2.2.2.2.2.2.2.1, ((v5.2.2.2.2.2.2.2.2.2.1.1, v5.2.2.2.2.2.2.2.2.2.1.2), (v5.2.2.2.2.2.2.2.2.2.2.1, v5.2.2.2.2.2.2.2.2.2.2.2))))))))))), (((0 : Int), (0 : Int)), (((0 : Int), (0 : Int)), (v4.1.1, v4.1.2.1)))))] : List Tya2e0c9)))))))))))))) (dnO (some ((0 : Int), v4.2.2.2))))) ((a2, a3, a1), (((a1.length : Nat) : Int), (0 : Int)), a0, ([] : List Tya2e0c9)))))))))
def h67 : HC := (.s .d (.s .d (.s .d (.s (.s .d (.b (.l [o67_s0] .d))) .d))))
theorem e67 (t : (Tyc0a991 × List Tyab9aec) × Int × List UInt8) : evF (stpT Tryz.prog T43 K43) Tryz.f67 p67 r67 h67 t = (o67 t.1.1 t.1.2 t.2.1 t.2.2) := by kernel_rfl
theorem fo67 : FOk Tryz.prog 67 ⟨p67, r67, fun t => (o67 t.1.1 t.1.2 t.2.1 t.2.2)⟩ := FOk.run_eq (evF_ok (h := h67) (by kernel_rfl) (by kernel_rfl) (by kernel_rfl)) e67
def T44 : Tbl := (67, ⟨p67, r67, fun t => (o67 t.1.1 t.1.2 t.2.1 t.2.2)⟩) :: T43
theorem K44 : TOk Tryz.prog T44 := .cons K43 fo67
def Bs73d092 : BSh := .lent [.s, .i .i64, .i .i64, .i .i64, .i .i64, .i .i64, .cst (.slice none 0 0), .cst (.slice none 0 0), .cst (.slice none 0 0), .s, .s, .ro (.p .b (.p (.p (.i .u8) (.p .s (.p .s (.p (.i .u8) (.p .b (.p (.i .i64) (.p (.i .i64) (.p (.i .i64) (.p (.i .i64) (.p (.p (.i .i64) (.i .i64)) (.p (.i .i64) (.i .i64)))))))))))) (.p (.p (.i .i64) (.i .i64)) (.p (.p (.i .i64) (.i .i64)) (.p (.i .u8) .s))))) false, .i .i64, .i .u8, .i .i64, .s, .s, .s, .s, .i .i64, .i .i64, .i .i64, .i .i64, .i .i64, .i .u8, .cst (.slice none 0 0)]
def Ssdb30f4 : SSh := .tup [.agg [.b, .i .u8, .s, .s, .i .u8, .b, .i .i64, .i .i64, .i .i64, .i .i64, .i .i64, .i .i64, .i .i64, .i .i64, .i .i64, .i .i64, .i .i64, .i .i64, .i .u8, .s], .c (.i .i64)]
abbrev Ty4a8e28 : Type := (((Bool × Int) × List UInt8 × List UInt8 × Int) × (Bool × Int) × Int × Int × Int) × ((Int × Int) × Int × Int × Int) × (Int × Int × Int) × Int × List UInt8 × Int
def p63 : Sch := ⟨[(0, .v (.c (.ptr 0 0))), (1, .v (.c (.i .u8))), (2, .v (.c (.s))), (3, .v (.c (.i .u8))), (4, .v (.c (.s)))], [Bs73d092]⟩
def r63 : List Sch := [⟨[(0, Ssdb30f4)], [.no]⟩]
def o63 (a0 : Int) (a1 : List UInt8) (a2 : Int) (a3 : List UInt8) (a4 : Ty58ac1c) : Option Ty4a8e28 :=
 (bd (α := Int × Int) (some gv3) (fun v3 => (bd (α := (Int × List Tya2e0c9)) (o67 ((a4.1.1.1.1, a4.1.1.1.2, a4.1.1.2.1), a4.1.1.2.2.1, a4.1.1.2.2.2, a4.1.2.1.1) ([(a0, (a1, (([] : List UInt8), ((0 : Int), (false, ((0 : Int), ((0 : Int), ((0 : Int), ((0 : Int), ((v3.1, v3.2), ((0 : Int), (0 : Int))))))))))))] : List Tyab9aec) a2 a3) (fun v4 => (cnd (v4.1 != (0 : Int)) (some ((((false, (0 : Int)), ([] : List UInt8), ([] : List UInt8), (0 : Int)), (false, (0 : Int)), (0 : Int), (0 : Int), (0 : Int)), (((0 : Int), (0 : Int)), (0 : Int), (0 : Int), (0 : Int)), ((0 : Int), (0 : Int), (0 : Int)), (0 : Int), ([] : List UInt8), v4.1)) (gd (decide ((0 : Int) ≤ (0 : Int) ∧ (0 : Int) < ((v4.2.length : Nat) : Int))) (bd (α := Tya2e0c9) (some (List.getD v4.2 ((0 : Int).toNat) Df4c50a0)) (fun v5 => (some ((((v5.1, v5.2.1.1), v5.2.1.2.1, v5.2.1.2.2.1, v5.2.1.2.2.2.1), (v5.2.1.2.2.2.2.1, v5.2.1.2.2.2.2.2.1), v5.2.1.2.2.2.2.2.2.1, v5.2.1.2.2.2.2.2.2.2.1, v5.2.1.2.2.2.2.2.2.2.2.1), (v5.2.1.2.2.2.2.2.2.2.2.2.1, v5.2.1.2.2.2.2.2.2.2.2.2.2.1, v5.2.1.2.2.2.2.2.2.2.2.2.2.2, v5.2.2.1.1), (v5.2.2.1.2, v5.2.2.2.1), v5.2.2.2.2.1, v5.2.2.2.2.2, (0 : Int)))))))))))
theorem e63 (t : (Int × List UInt8) × Int × List UInt8 × Ty58ac1c) : evF (stpT Tryz.prog T44 K44) Tryz.f63 p63 r63 (.s .d (.s (.r 2) .d)) t = (o63 t.1.1 t.1.2 t.2.1 t.2.2.1 t.2.2.2) := by kernel_rfl
theorem fo63 : FOk Tryz.prog 63 ⟨p63, r63, fun t => (o63 t.1.1 t.1.2 t.2.1 t.2.2.1 t.2.2.2)⟩ := FOk.run_eq (evF_ok (h := (.s .d (.s (.r 2) .d))) (by kernel_rfl) (by kernel_rfl) (by kernel_rfl)) e63
def T45 : Tbl := (63, ⟨p63, r63, fun t => (o63 t.1.1 t.1.2 t.2.1 t.2.2.1 t.2.2.2)⟩) :: T44
theorem K45 : TOk Tryz.prog T45 := .cons K44 fo63
def Ssac53df : SSh := .v (.c (.ro (.p .b (.p (.p (.i .u8) (.p .s (.p .s (.p (.i .u8) (.p .b (.p (.i .i64) (.p (.i .i64) (.p (.i .i64) (.p (.i .i64) (.p (.p (.i .i64) (.i .i64)) (.p (.i .i64) (.i .i64)))))))))))) (.p (.p (.i .i64) (.i .i64)) (.p (.p (.i .i64) (.i .i64)) (.p (.i .u8) .s))))) true))
abbrev Ty85780d : Type := (Int × List Tya2e0c9 × Int) × (List Tya2e0c9 × Int) × Int × Ty58ac1c
def o39_s0 : Sch := ⟨[(0, .v (.c (.ptr 0 0))), (3, .v (.c (.i .i64))), (4, Ssac53df), (6, .v (.c (.i .u8))), (59, Ssac53df), (60, .v (.c (.i .i64))), (61, .v (.c (.i .i64)))], [Bsf6d837]⟩
def o39_s1 : Sch := ⟨[(0, .v (.c (.ptr 0 0))), (3, .v (.c (.i .i64))), (4, Ssac53df), (6, .v (.c (.i .u8))), (73, Ssac53df), (74, .v (.c (.i .i64))), (75, .v (.c (.i .i64)))], [Bsf6d837]⟩
def o39_s2 : Sch := ⟨[(0, .v (.c (.ptr 0 0))), (3, .v (.c (.i .i64))), (4, Ssac53df), (6, .v (.c (.i .u8)))], [Bsf6d837]⟩
def p39 : Sch := ⟨[(0, .v (.c (.ptr 0 0)))], [Bsf6d837]⟩
def r39 : List Sch := [⟨[(0, .v (.c (.i .i64)))], [Bsae0beb, Bs214155]⟩]
def o39 (a0 : Ty58ac1c) : Option (Int × Ty58ac1c × List Tya2e0c9) :=
 (cnd (decide (a0.2.1.1.1 ≤ a0.1.2.2.2.1)) (some ((8 : Int), a0, ([] : List Tya2e0c9))) (bd (α := Int) (o60 a0.1.2.2.1 a0.2.1.1.1 a0.2.1.1.2) (fun v1 => (cnd (decide (v1 ≥ (0 : Int))) (gd (decide ((0 : Int) ≤ a0.2.1.1.1 ∧ a0.2.1.1.1 ≤ ((a0.1.2.2.1.length : Nat) : Int))) (bd (α := (Ty58ac1c × List Tya2e0c9)) (o61 (List.take a0.2.1.1.1.toNat a0.1.2.2.1) a0) (fun v2 => (gd (decide ((0 : Int) ≤ v1 ∧ v1 < ((a0.1.2.2.1.length : Nat) : Int))) (bd (α := Tya2e0c9) (some (List.getD a0.1.2.2.1 v1.toNat Df4c50a0)) (fun v3 => (bd (α := Tyda5236) (o62 ((((v3.1, v3.2.1.1), v3.2.1.2.1, v3.2.1.2.2.1, v3.2.1.2.2.2.1), (v3.2.1.2.2.2.2.1, v3.2.1.2.2.2.2.2.1), v3.2.1.2.2.2.2.2.2.1, v3.2.1.2.2.2.2.2.2.2.1, v3.2.1.2.2.2.2.2.2.2.2.1), (v3.2.1.2.2.2.2.2.2.2.2.2.1, v3.2.1.2.2.2.2.2.2.2.2.2.2.1, v3.2.1.2.2.2.2.2.2.2.2.2.2.2, v3.2.2.1.1), (v3.2.2.1.2, v3.2.2.2.1.1), v3.2.2.2.1.2, v3.2.2.2.2)) (fun v4 => (bd (α := (Ty58ac1c × List Tya2e0c9)) (o61v1 ([(v4.1.1.1, (((4 : Int), (v4.1.1.2.1, (v4.1.1.2.2, ((0 : Int), (v4.1.2.1, ((0 : Int), ((0 : Int), ((0 : Int), ((0 : Int), ((v4.1.2.2.1, v4.1.2.2.2), (v4.2.1.1, v4.2.1.2.1))))))))))), ((v4.2.1.2.2, v4.2.2.1), (((0 : Int), (0 : Int)), (v4.2.2.2.1, v4.2.2.2.2)))))] : List Tya2e0c9) v2.1 v2.2) (fun v5 => (gd (decide ((0 : Int) ≤ (IntKind.wrap .i64 (v1 + (1 : Int))) ∧ (IntKind.wrap .i64 (v1 + (1 : Int))) ≤ ((a0.1.2.2.1.length : Nat) : Int))) (bd (α := (Ty58ac1c × List Tya2e0c9)) (o61v1 (List.drop (IntKind.wrap .i64 (v1 + (1 : Int))).toNat a0.1.2.2.1) v5.1 v5.2) (fun v6 => (some ((0 : Int), v6))))))))))))))) (loopO (σ := Ty85780d) fuelN (fun (v8 : Ty85780d) => (cnd (decide (v8.2.2.1 < v8.2.1.2)) (gd (decide ((0 : Int) ≤ v8.2.2.1 ∧ v8.2.2.1 < ((v8.2.1.1.length : Nat) : Int))) (bd (α := Tya2e0c9) (some (List.getD v8.2.1.1 v8.2.2.1.toNat Df4c50a0)) (fun v9 => (cnd (!v9.1) (some (Ctl.go ((v8.1.1, v8.1.2.1, v9.2.2.2.2.1), v8.2.1, (IntKind.wrap .i64 (v8.2.2.1 + (1 : Int))), v8.2.2.2))) (some (Ctl.go (v8.1, v8.2.1, (IntKind.wrap .i64 (v8.2.2.1 + (1 : Int))), v8.2.2.2))))))) (dnO (bd (α := ((Int × List Tya2e0c9) × Int × Ty58ac1c)) (gd (decide ((0 : Int) ≤ v8.1.1 ∧ v8.1.1 ≤ ((v8.1.2.1.length : Nat) : Int))) (loopO (σ := Ty85780d) fuelN (fun (v11 : Ty85780d) => (cnd (decide (v11.2.2.1 < v11.2.1.2)) (gd (decide ((0 : Int) ≤ v11.2.2.1 ∧ v11.2.2.1 < ((v11.2.1.1.length : Nat) : Int))) (bd (α := Tya2e0c9) (some (List.getD v11.2.1.1 v11.2.2.1.toNat Df4c50a0)) (fun v12 => (cnd (!v12.1) (dnO (some ((v11.1.1, v11.1.2.1), v12.2.2.2.2.1, v11.2.2.2))) (some (Ctl.go (v11.1, v11.2.1, (IntKind.wrap .i64 (v11.2.2.1 + (1 : Int))), v11.2.2.2))))))) (dnO (some ((v11.1.1, v11.1.2.1), v11.1.2.2, v11.2.2.2))))) (v8.1, ((List.drop v8.1.1.toNat v8.1.2.1), (((List.drop v8.1.1.toNat v8.1.2.1).length : Nat) : Int)), (0 : Int), v8.2.2.2))) (fun v13 => (bd (α := Ty4a8e28) (o63 (4 : Int) v13.2.2.2.1.1.2 v13.2.1 ([] : List UInt8) v13.2.2) (fun v14 => (cnd (v14.2.2.2.2.2 != (0 : Int)) (some (v14.2.2.2.2.2, v13.2.2, ([] : List Tya2e0c9))) (gd (decide ((0 : Int) ≤ v13.1.1 ∧ v13.1.1 ≤ ((v13.1.2.length : Nat) : Int))) (bd (α := (Ty58ac1c × List Tya2e0c9)) (o61 (List.take v13.1.1.toNat v13.1.2) v13.2.2) (fun v15 => (bd (α := Tya2e0c9) (some gv2) (fun v16 => (bd (α := (Ty58ac1c × List Tya2e0c9)) (o61v1 ([(v14.1.1.1.1, ((v14.1.1.1.2, (v14.1.1.2.1, (v14.1.1.2.2.1, (v14.1.1.2.2.2, (v14.1.2.1.1, (v14.1.2.1.2, (v14.1.2.2.1, (v14.1.2.2.2.1, (v14.1.2.2.2.2, ((v14.2.1.1.1, v14.2.1.1.2), (v14.2.1.2.1, v14.2.1.2.2.1))))))))))), ((v14.2.1.2.2.2, v14.2.2.1.1), ((v14.2.2.1.2.1, v14.2.2.1.2.2), (v14.2.2.2.1, v14.2.2.2.2.1))))), (v16.1, ((v16.2.1.1, (v16.2.1.2.1, (v16.2.1.2.2.1, (v16.2.1.2.2.2.1, (v16.2.1.2.2.2.2.1, (v16.2.1.2.2.2.2.2.1, (v16.2.1.2.2.2.2.2.2.1, (v16.2.1.2.2.2.2.2.2.2.1, (v16.2.1.2.2.2.2.2.2.2.2.1, ((v16.2.1.2.2.2.2.2.2.2.2.2.1.1, v16.2.1.2.2.2.2.2.2.2.2.2.1.2), (v16.2.1.2.2.2.2.2.2.2.2.2.2.1, v16.2.1.2.2.2.2.2.2.2.2.2.2.2))))))))))), ((v16.2.2.1.1, v16.2.2.1.2), ((v16.2.2.2.1.1, v16.2.2.2.1.2), (v16.2.2.2.2.1, v16.2.2.2.2.2)))))] : List Tya2e0c9) v15.1 v15.2) (fun v17 => (gd (decide ((0 : Int) ≤ v13.1.1 ∧ v13.1.1 ≤ ((v13.1.2.length : Nat) : Int))) (bd (α := (Ty58ac1c × List Tya2e0c9)) (o61v1 (List.drop v13.1.1.toNat v13.1.2) v17.1 v17.2) (fun v18 => (some ((0 : Int), v18)))))))))))))))))))) ((a0.2.1.1.1, a0.1.2.2.1, (2 : Int)), (a0.1.2.2.1, ((a0.1.2.2.1.length : Nat) : Int)), (0 : Int), a0))))))
def h39 : HC := (.s .d (.s .d (.s .d (.s .d (.s .d (.s (.s .d (.b (.l [o39_s0] .d))) (.j false [o39_s2] (.s (.s .d (.b (.l [o39_s1] .d))) .d))))))))
theorem e39 (t : Ty58ac1c) : evF (stpT Tryz.prog T45 K45) Tryz.f39 p39 r39 h39 t = (o39 t) := by kernel_rfl
theorem fo39 : FOk Tryz.prog 39 ⟨p39, r39, fun t => (o39 t)⟩ := FOk.run_eq (evF_ok (h := h39) (by kernel_rfl) (by kernel_rfl) (by kernel_rfl)) e39
def T46 : Tbl := (39, ⟨p39, r39, fun t => (o39 t)⟩) :: T45
theorem K46 : TOk Tryz.prog T46 := .cons K45 fo39
def o40_s0 : Sch := ⟨[(0, .v (.c (.ptr 0 0))), (5, Ssac53df), (52, .v (.c (.b)))], [Bsae0beb, Bs214155]⟩
def o40_s1 : Sch := ⟨[(0, .v (.c (.ptr 0 0))), (5, Ssac53df)], [Bsae0beb, Bs214155]⟩
def p40 : Sch := ⟨[(0, .v (.c (.ptr 0 0)))], [Bsf6d837]⟩
def r40 : List Sch := [⟨[(0, .v (.c (.i .i64)))], [Bsae0beb, Bs214155]⟩]
def o40 (a0 : Ty58ac1c) : Option (Int × Ty58ac1c × List Tya2e0c9) :=
 (cnd (decide (a0.2.1.1.1 ≤ a0.1.2.2.2.1)) (some ((8 : Int), a0, ([] : List Tya2e0c9))) (gd (decide ((0 : Int) ≤ a0.2.1.1.1 ∧ a0.2.1.1.1 ≤ ((a0.1.2.2.1.length : Nat) : Int))) (bd (α := (Ty58ac1c × List Tya2e0c9)) (o61 (List.take a0.2.1.1.1.toNat a0.1.2.2.1) a0) (fun v1 => (gd (decide ((0 : Int) ≤ (IntKind.wrap .i64 (a0.2.1.1.1 + (1 : Int))) ∧ (IntKind.wrap .i64 (a0.2.1.1.1 + (1 : Int))) ≤ ((a0.1.2.2.1.length : Nat) : Int))) (bd (α := (List Tya2e0c9 × Ty58ac1c × List Tya2e0c9)) (gd (decide ((0 : Int) ≤ a0.2.1.1.1 ∧ a0.2.1.1.1 < ((a0.1.2.2.1.length : Nat) : Int))) (cnd (!((List.getD a0.1.2.2.1 a0.2.1.1.1.toNat Df4c50a0).1)) (bd (α := Tya2e0c9) (some gv2) (fun v2 => (bd (α := (Ty58ac1c × List Tya2e0c9)) (o61v1 ([(v2.1, ((v2.2.1.1, (v2.2.1.2.1, (v2.2.1.2.2.1, (v2.2.1.2.2.2.1, (v2.2.1.2.2.2.2.1, (v2.2.1.2.2.2.2.2.1, (v2.2.1.2.2.2.2.2.2.1, (v2.2.1.2.2.2.2.2.2.2.1, (v2.2.1.2.2.2.2.2.2.2.2.1, ((v2.2.1.2.2.2.2.2.2.2.2.2.1.1, v2.2.1.2.2.2.2.2.2.2.2.2.1.2), (v2.2.1.2.2.2.2.2.2.2.2.2.2.1, v2.2.1.2.2.2.2.2.2.2.2.2.2.2))))))))))), ((v2.2.2.1.1, v2.2.2.1.2), ((v2.2.2.2.1.1, v2.2.2.2.1.2), (v2.2.2.2.2.1, v2.2.2.2.2.2)))))] : List Tya2e0c9) v1.1 v1.2) (fun v3 => (some ((List.drop (IntKind.wrap .i64 (a0.2.1.1.1 + (1 : Int))).toNat a0.1.2.2.1), v3)))))) (bd (α := ((List Tya2e0c9 × Bool) × Ty58ac1c × List Tya2e0c9)) (cnd (decide ((((List.drop (IntKind.wrap .i64 (a0.2.1.1.1 + (1 : Int))).toNat a0.1.2.2.1).length : Nat) : Int) > (0 : Int))) (gd (decide ((0 : Int) ≤ (0 : Int) ∧ (0 : Int) < (((List.drop (IntKind.wrap .i64 (a0.2.1.1.1 + (1 : Int))).toNat a0.1.2.2.1).length : Nat) : Int))) (some (((List.drop (IntKind.wrap .i64 (a0.2.1.1.1 + (1 : Int))).toNat a0.1.2.2.1), ((((List.getD (List.drop (IntKind.wrap .i64 (a0.2.1.1.1 + (1 : Int))).toNat a0.1.2.2.1) (0 : Int).toNat Df4c50a0).2).1).1 == (1 : Int))), v1))) (some (((List.drop (IntKind.wrap .i64 (a0.2.1.1.1 + (1 : Int))).toNat a0.1.2.2.1), false), v1))) (fun v4 => (cnd v4.1.2 (gd (decide ((0 : Int) ≤ (0 : Int) ∧ (0 : Int) < ((v4.1.1.length : Nat) : Int))) (bd (α := Tya2e0c9) (some (List.getD v4.1.1 (0 : Int).toNat Df4c50a0)) (fun v5 => (bd (α := Tyda5236) (o62 ((((v5.1, v5.2.1.1), v5.2.1.2.1, v5.2.1.2.2.1, v5.2.1.2.2.2.1), (v5.2.1.2.2.2.2.1, v5.2.1.2.2.2.2.2.1), v5.2.1.2.2.2.2.2.2.1, v5.2.1.2.2.2.2.2.2.2.1, v5.2.1.2.2.2.2.2.2.2.2.1), (v5.2.1.2.2.2.2.2.2.2.2.2.1, v5.2.1.2.2.2.2.2.2.2.2.2.2.1, v5.2.1.2.2.2.2.2.2.2.2.2.2.2, v5.2.2.1.1), (v5.2.2.1.2, v5.2.2.2.1.1), v5.2.2.2.1.2, v5.2.2.2.2)) (fun v6 => (bd (α := (Ty58ac1c × List Tya2e0c9)) (o61v1 ([(v6.1.1.1, (((4 : Int), (v6.1.1.2.1, (v6.1.1.2.2, ((0 : Int), (v6.1.2.1, ((0 : Int), ((0 : Int), ((0 : Int), ((0 : Int), ((v6.1.2.2.1, v6.1.2.2.2), (v6.2.1.1, v6.2.1.2.1))))))))))), ((v6.2.1.2.2, v6.2.2.1), (((0 : Int), (0 : Int)), (v6.2.2.2.1, v6.2.2.2.2)))))] : List Tya2e0c9) v4.2.1 v4.2.2) (fun v7 => (gd (decide ((0 : Int) ≤ (1 : Int) ∧ (1 : Int) ≤ ((v4.1.1.length : Nat) : Int))) (some ((List.drop (1 : Int).toNat v4.1.1), v7)))))))))) (some (v4.1.1, v4.2))))))) (fun v8 => (bd (α := (Ty58ac1c × List Tya2e0c9)) (o61v1 v8.1 v8.2.1 v8.2.2) (fun v9 => (some ((0 : Int), v9)))))))))))
def h40 : HC := (.s .d (.s .d (.s .d (.s .d (.s .d (.j false [o40_s1] (.s (.s .d (.c .d (.s (.j false [o40_s0] .d) .d))) .d)))))))
theorem e40 (t : Ty58ac1c) : evF (stpT Tryz.prog T46 K46) Tryz.f40 p40 r40 h40 t = (o40 t) := by kernel_rfl
theorem fo40 : FOk Tryz.prog 40 ⟨p40, r40, fun t => (o40 t)⟩ := FOk.run_eq (evF_ok (h := h40) (by kernel_rfl) (by kernel_rfl) (by kernel_rfl)) e40
def T47 : Tbl := (40, ⟨p40, r40, fun t => (o40 t)⟩) :: T46
theorem K47 : TOk Tryz.prog T47 := .cons K46 fo40
def o41_s0 : Sch := ⟨[(0, .v (.c (.ptr 0 0))), (3, .v (.c (.i .i64))), (4, Ssac53df), (5, .v (.c (.ptr 1 0))), (44, .v (.c (.b)))], [Bsf6d837, Bsa7a67f]⟩
def o41_s1 : Sch := ⟨[(0, .v (.c (.ptr 0 0)))], [Bsae0beb, Bs214155]⟩
def p41 : Sch := ⟨[(0, .v (.c (.ptr 0 0)))], [Bsf6d837]⟩
def r41 : List Sch := [⟨[(0, .v (.c (.i .i64)))], [Bsae0beb, Bs214155]⟩]
def o41 (a0 : Ty58ac1c) : Option (Int × Ty58ac1c × List Tya2e0c9) :=
 (cnd (decide (a0.2.1.1.1 < a0.1.2.2.2.1)) (some ((8 : Int), a0, ([] : List Tya2e0c9))) (gd (decide ((0 : Int) ≤ a0.2.1.1.1 ∧ a0.2.1.1.1 < ((a0.1.2.2.1.length : Nat) : Int))) (bd (α := Tya2e0c9) (some (List.getD a0.1.2.2.1 a0.2.1.1.1.toNat Df4c50a0)) (fun v1 => (bd (α := Bool) (o64 ((((v1.1, v1.2.1.1), v1.2.1.2.1, v1.2.1.2.2.1, v1.2.1.2.2.2.1), (v1.2.1.2.2.2.2.1, v1.2.1.2.2.2.2.2.1), v1.2.1.2.2.2.2.2.2.1, v1.2.1.2.2.2.2.2.2.2.1, v1.2.1.2.2.2.2.2.2.2.2.1), (v1.2.1.2.2.2.2.2.2.2.2.2.1, v1.2.1.2.2.2.2.2.2.2.2.2.2.1, v1.2.1.2.2.2.2.2.2.2.2.2.2.2, v1.2.2.1.1), (v1.2.2.1.2, v1.2.2.2.1.1), v1.2.2.2.1.2, v1.2.2.2.2)) (fun v2 => (cnd (!v2) (some ((17 : Int), a0, ([] : List Tya2e0c9))) (bd (α := (Ty58ac1c × List Tya2e0c9)) (bd (α := ((Int × List Tya2e0c9) × Bool × Ty58ac1c × Ty7661d1)) (cnd (v1.2.1.1 == (14 : Int)) (some ((a0.2.1.1.1, a0.1.2.2.1), true, a0, (((v1.1, v1.2.1.1), v1.2.1.2.1, v1.2.1.2.2.1, v1.2.1.2.2.2.1), (v1.2.1.2.2.2.2.1, v1.2.1.2.2.2.2.2.1), v1.2.1.2.2.2.2.2.2.1, v1.2.1.2.2.2.2.2.2.2.1, v1.2.1.2.2.2.2.2.2.2.2.1), (v1.2.1.2.2.2.2.2.2.2.2.2.1, v1.2.1.2.2.2.2.2.2.2.2.2.2.1, v1.2.1.2.2.2.2.2.2.2.2.2.2.2, v1.2.2.1.1), (v1.2.2.1.2, v1.2.2.2.1.1), v1.2.2.2.1.2, v1.2.2.2.2)) (cnd (v1.2.1.1 == (15 : Int)) (some ((a0.2.1.1.1, a0.1.2.2.1), true, a0, (((v1.1, v1.2.1.1), v1.2.1.2.1, v1.2.1.2.2.1, v1.2.1.2.2.2.1), (v1.2.1.2.2.2.2.1, v1.2.1.2.2.2.2.2.1), v1.2.1.2.2.2.2.2.2.1, v1.2.1.2.2.2.2.2.2.2.1, v1.2.1.2.2.2.2.2.2.2.2.1), (v1.2.1.2.2.2.2.2.2.2.2.2.1, v1.2.1.2.2.2.2.2.2.2.2.2.2.1, v1.2.1.2.2.2.2.2.2.2.2.2.2.2, v1.2.2.1.1), (v1.2.2.1.2, v1.2.2.2.1.1), v1.2.2.2.1.2, v1.2.2.2.2)) (cnd (v1.2.1.1 == (16 : Int)) (some ((a0.2.1.1.1, a0.1.2.2.1), true, a0, (((v1.1, v1.2.1.1), v1.2.1.2.1, v1.2.1.2.2.1, v1.2.1.2.2.2.1), (v1.2.1.2.2.2.2.1, v1.2.1.2.2.2.2.2.1), v1.2.1.2.2.2.2.2.2.1, v1.2.1.2.2.2.2.2.2.2.1, v1.2.1.2.2.2.2.2.2.2.2.1), (v1.2.1.2.2.2.2.2.2.2.2.2.1, v1.2.1.2.2.2.2.2.2.2.2.2.2.1, v1.2.1.2.2.2.2.2.2.2.2.2.2.2, v1.2.2.1.1), (v1.2.2.1.2, v1.2.2.2.1.1), v1.2.2.2.1.2, v1.2.2.2.2)) (some ((a0.2.1.1.1, a0.1.2.2.1), (v1.2.1.1 == (17 : Int)), a0, (((v1.1, v1.2.1.1), v1.2.1.2.1, v1.2.1.2.2.1, v1.2.1.2.2.2.1), (v1.2.1.2.2.2.2.1, v1.2.1.2.2.2.2.2.1), v1.2.1.2.2.2.2.2.2.1, v1.2.1.2.2.2.2.2.2.2.1, v1.2.1.2.2.2.2.2.2.2.2.1), (v1.2.1.2.2.2.2.2.2.2.2.2.1, v1.2.1.2.2.2.2.2.2.2.2.2.2.1, v1.2.1.2.2.2.2.2.2.2.2.2.2.2, v1.2.2.1.1), (v1.2.2.1.2, v1.2.2.2.1.1), v1.2.2.2.1.2, v1.2.2.2.2))))) (fun v3 => (cnd v3.2.1 (bd (α := Int × Int) (some gv3) (fun v4 => (bd (α := (Ty58ac1c × List Tya2e0c9)) (o61 ([(false, (((4 : Int), (v3.2.2.2.1.1.2.1, (([] : List UInt8), ((0 : Int), (false, ((0 : Int), ((0 : Int), ((0 : Int), ((0 : Int), ((v4.1, v4.2), ((0 : Int), (0 : Int)))))))))))), ((v3.2.2.2.2.1.2.2.2, v3.2.2.2.2.2.1.1), (((0 : Int), (0 : Int)), (v3.2.2.2.2.2.2.2.1, v3.2.2.2.2.2.2.2.2)))))] : List Tya2e0c9) v3.2.2.1) (fun v5 => (gd (decide ((0 : Int) ≤ v3.1.1 ∧ v3.1.1 ≤ ((v3.1.2.length : Nat) : Int))) (bd (α := (Ty58ac1c × List Tya2e0c9)) (o61v1 (List.drop v3.1.1.toNat v3.1.2) v5.1 v5.2) (fun v6 => (some v6)))))))) (bd (α := Tyda5236) (o62 v3.2.2.2) (fun v7 => (bd (α := (Ty58ac1c × List Tya2e0c9)) (o61 ([(v7.1.1.1, (((4 : Int), (v7.1.1.2.1, (v7.1.1.2.2, ((0 : Int), (v7.1.2.1, ((0 : Int), ((0 : Int), ((0 : Int), ((0 : Int), ((v7.1.2.2.1, v7.1.2.2.2), (v7.2.1.1, v7.2.1.2.1))))))))))), ((v7.2.1.2.2, v7.2.2.1), (((0 : Int), (0 : Int)), (v7.2.2.2.1, v7.2.2.2.2)))))] : List Tya2e0c9) v3.2.2.1) (fun v8 => (gd (decide ((0 : Int) ≤ (IntKind.wrap .i64 (v3.1.1 + (1 : Int))) ∧ (IntKind.wrap .i64 (v3.1.1 + (1 : Int))) ≤ ((v3.1.2.length : Nat) : Int))) (bd (α := (Ty58ac1c × List Tya2e0c9)) (o61v1 (List.drop (IntKind.wrap .i64 (v3.1.1 + (1 : Int))).toNat v3.1.2) v8.1 v8.2) (fun v9 => (some v9))))))))))) (fun v10 => (some ((0 : Int), ((v10.1.1.1, v10.1.1.2.1, v10.1.1.2.2.1, (0 : Int), v10.1.1.2.2.2.2), v10.1.2), v10.2)))))))))))
def h41 : HC := (.s .d (.s .d (.s .d (.s .d (.s .d (.j false [o41_s1] (.s (.s .d (.b (.j false [o41_s0] .d))) .d)))))))
theorem e41 (t : Ty58ac1c) : evF (stpT Tryz.prog T47 K47) Tryz.f41 p41 r41 h41 t = (o41 t) := by kernel_rfl
theorem fo41 : FOk Tryz.prog 41 ⟨p41, r41, fun t => (o41 t)⟩ := FOk.run_eq (evF_ok (h := h41) (by kernel_rfl) (by kernel_rfl) (by kernel_rfl)) e41
def T48 : Tbl := (41, ⟨p41, r41, fun t => (o41 t)⟩) :: T47
theorem K48 : TOk Tryz.prog T48 := .cons K47 fo41
def p42 : Sch := ⟨[(0, .v (.c (.ptr 0 0)))], [Bsf6d837]⟩
def r42 : List Sch := [⟨[(0, .v (.c (.i .i64)))], [Bsae0beb, Bs214155]⟩]
def o42 (a0 : Ty58ac1c) : Option (Int × Ty58ac1c × List Tya2e0c9) :=
 (cnd (decide (a0.2.1.1.1 < a0.1.2.2.2.1)) (some ((8 : Int), a0, ([] : List Tya2e0c9))) (gd (decide ((0 : Int) ≤ a0.2.1.1.1 ∧ a0.2.1.1.1 < ((a0.1.2.2.1.length : Nat) : Int))) (cnd ((List.getD a0.1.2.2.1 a0.2.1.1.1.toNat Df4c50a0).1) (some ((17 : Int), a0, ([] : List Tya2e0c9))) (bd (α := (Ty58ac1c × List Tya2e0c9)) (o61 a0.1.2.2.1 a0) (fun v1 => (gd (decide ((0 : Int) ≤ a0.2.1.1.1 ∧ a0.2.1.1.1 < ((v1.2.length : Nat) : Int))) (cnd (v1.1.1.2.2.2.2 == (4 : Int)) (some ((0 : Int), v1.1, (List.set v1.2 a0.2.1.1.1.toNat ((List.getD v1.2 a0.2.1.1.1.toNat Df4c50a0).1, (((((List.getD v1.2 a0.2.1.1.1.toNat Df4c50a0).2).1).1, (((((List.getD v1.2 a0.2.1.1.1.toNat Df4c50a0).2).1).2).1, ((((((List.getD v1.2 a0.2.1.1.1.toNat Df4c50a0).2).1).2).2).1, (((((((List.getD v1.2 a0.2.1.1.1.toNat Df4c50a0).2).1).2).2).2).1, ((((((((List.getD v1.2 a0.2.1.1.1.toNat Df4c50a0).2).1).2).2).2).2).1, (((((((((List.getD v1.2 a0.2.1.1.1.toNat Df4c50a0).2).1).2).2).2).2).2).1, ((((((((((List.getD v1.2 a0.2.1.1.1.toNat Df4c50a0).2).1).2).2).2).2).2).2).1, (((((((((((List.getD v1.2 a0.2.1.1.1.toNat Df4c50a0).2).1).2).2).2).2).2).2).2).1, ((((((((((((List.getD v1.2 a0.2.1.1.1.toNat Df4c50a0).2).1).2).2).2).2).2).2).2).2).1, ((v1.1.2.2.1.1, v1.1.2.2.1.2.1), ((((((((((((((List.getD v1.2 a0.2.1.1.1.toNat Df4c50a0).2).1).2).2).2).2).2).2).2).2).2).2).1, (((((((((((((List.getD v1.2 a0.2.1.1.1.toNat Df4c50a0).2).1).2).2).2).2).2).2).2).2).2).2).2))))))))))), ((((((List.getD v1.2 a0.2.1.1.1.toNat Df4c50a0).2).2).1).1, ((((List.getD v1.2 a0.2.1.1.1.toNat Df4c50a0).2).2).1).2), (((((((List.getD v1.2 a0.2.1.1.1.toNat Df4c50a0).2).2).2).1).1, (((((List.getD v1.2 a0.2.1.1.1.toNat Df4c50a0).2).2).2).1).2), ((((((List.getD v1.2 a0.2.1.1.1.toNat Df4c50a0).2).2).2).2).1, (((((List.getD v1.2 a0.2.1.1.1.toNat Df4c50a0).2).2).2).2).2)))))))) (cnd (v1.1.1.2.2.2.2 == (5 : Int)) (some ((0 : Int), v1.1, (List.set v1.2 a0.2.1.1.1.toNat ((List.getD v1.2 a0.2.1.1.1.toNat Df4c50a0).1, (((((List.getD v1.2 a0.2.1.1.1.toNat Df4c50a0).2).1).1, (((((List.getD v1.2 a0.2.1.1.1.toNat Df4c50a0).2).1).2).1, ((((((List.getD v1.2 a0.2.1.1.1.toNat Df4c50a0).2).1).2).2).1, (((((((List.getD v1.2 a0.2.1.1.1.toNat Df4c50a0).2).1).2).2).2).1, ((((((((List.getD v1.2 a0.2.1.1.1.toNat Df4c50a0).2).1).2).2).2).2).1, (((((((((List.getD v1.2 a0.2.1.1.1.toNat Df4c50a0).2).1).2).2).2).2).2).1, ((((((((((List.getD v1.2 a0.2.1.1.1.toNat Df4c50a0).2).1).2).2).2).2).2).2).1, (((((((((((List.getD v1.2 a0.2.1.1.1.toNat Df4c50a0).2).1).2).2).2).2).2).2).2).1, ((((((((((((List.getD v1.2 a0.2.1.1.1.toNat Df4c50a0).2).1).2).2).2).2).2).2).2).2).1, (((((((((((((((List.getD v1.2 a0.2.1.1.1.toNat Df4c50a0).2).1).2).2).2).2).2).2).2).2).2).1).1, (((((((((((((List.getD v1.2 a0.2.1.1.1.toNat Df4c50a0).2).1).2).2).2).2).2).2).2).2).2).1).2), (v1.1.2.2.1.2.2, (((((((((((((List.getD v1.2 a0.2.1.1.1.toNat Df4c50a0).2).1).2).2).2).2).2).2).2).2).2).2).2))))))))))), ((((((List.getD v1.2 a0.2.1.1.1.toNat Df4c50a0).2).2).1).1, ((((List.getD v1.2 a0.2.1.1.1.toNat Df4c50a0).2).2).1).2), (((((((List.getD v1.2 a0.2.1.1.1.toNat Df4c50a0).2).2).2).1).1, (((((List.getD v1.2 a0.2.1.1.1.toNat Df4c50a0).2).2).2).1).2), ((((((List.getD v1.2 a0.2.1.1.1.toNat Df4c50a0).2).2).2).2).1, (((((List.getD v1.2 a0.2.1.1.1.toNat Df4c50a0).2).2).2).2).2)))))))) (some ((0 : Int), v1.1, (List.set v1.2 a0.2.1.1.1.toNat ((List.getD v1.2 a0.2.1.1.1.toNat Df4c50a0).1, (((((List.getD v1.2 a0.2.1.1.1.toNat Df4c50a0).2).1).1, (((((List.getD v1.2 a0.2.1.1.1.toNat Df4c50a0).2).1).2).1, ((((((List.getD v1.2 a0.2.1.1.1.toNat Df4c50a0).2).1).2).2).1, (((((((List.getD v1.2 a0.2.1.1.1.toNat Df4c50a0).2).1).2).2).2).1, ((((((((List.getD v1.2 a0.2.1.1.1.toNat Df4c50a0).2).1).2).2).2).2).1, (((((((((List.getD v1.2 a0.2.1.1.1.toNat Df4c50a0).2).1).2).2).2).2).2).1, ((((((((((List.getD v1.2 a0.2.1.1.1.toNat Df4c50a0).2).1).2).2).2).2).2).2).1, (((((((((((List.getD v1.2 a0.2.1.1.1.toNat Df4c50a0).2).1).2).2).2).2).2).2).2).1, ((((((((((((List.getD v1.2 a0.2.1.1.1.toNat Df4c50a0).2).1).2).2).2).2).2).2).2).2).1, (((((((((((((((List.getD v1.2 a0.2.1.1.1.toNat Df4c50a0).2).1).2).2).2).2).2).2).2).2).2).1).1, (((((((((((((List.getD v1.2 a0.2.1.1.1.toNat Df4c50a0).2).1).2).2).2).2).2).2).2).2).2).1).2), ((((((((((((((List.getD v1.2 a0.2.1.1.1.toNat Df4c50a0).2).1).2).2).2).2).2).2).2).2).2).2).1, v1.1.2.2.2.2.1))))))))))), ((((((List.getD v1.2 a0.2.1.1.1.toNat Df4c50a0).2).2).1).1, ((((List.getD v1.2 a0.2.1.1.1.toNat Df4c50a0).2).2).1).2), (((((((List.getD v1.2 a0.2.1.1.1.toNat Df4c50a0).2).2).2).1).1, (((((List.getD v1.2 a0.2.1.1.1.toNat Df4c50a0).2).2).2).1).2), ((((((List.getD v1.2 a0.2.1.1.1.toNat Df4c50a0).2).2).2).2).1, (((((List.getD v1.2 a0.2.1.1.1.toNat Df4c50a0).2).2).2).2).2))))))))))))))))
theorem e42 (t : Ty58ac1c) : evF (stpT Tryz.prog T48 K48) Tryz.f42 p42 r42 .d t = (o42 t) := by kernel_rfl
theorem fo42 : FOk Tryz.prog 42 ⟨p42, r42, fun t => (o42 t)⟩ := FOk.run_eq (evF_ok (h := .d) (by kernel_rfl) (by kernel_rfl) (by kernel_rfl)) e42
def T49 : Tbl := (42, ⟨p42, r42, fun t => (o42 t)⟩) :: T48
theorem K49 : TOk Tryz.prog T49 := .cons K48 fo42
def o43_s0 : Sch := ⟨[(0, .v (.c (.ptr 0 0))), (3, .v (.c (.i .i64))), (4, Ssac53df), (5, .v (.c (.ptr 1 0))), (34, .v (.c (.b)))], [Bsf6d837, Bsa7a67f]⟩
def p43 : Sch := ⟨[(0, .v (.c (.ptr 0 0)))], [Bsf6d837]⟩
def r43 : List Sch := [⟨[(0, .v (.c (.i .i64)))], [Bsae0beb, Bs214155]⟩]
def o43 (a0 : Ty58ac1c) : Option (Int × Ty58ac1c × List Tya2e0c9) :=
 (cnd (decide (a0.2.1.1.1 < a0.1.2.2.2.1)) (some ((8 : Int), a0, ([] : List Tya2e0c9))) (gd (decide ((0 : Int) ≤ a0.2.1.1.1 ∧ a0.2.1.1.1 < ((a0.1.2.2.1.length : Nat) : Int))) (bd (α := Tya2e0c9) (some (List.getD a0.1.2.2.1 a0.2.1.1.1.toNat Df4c50a0)) (fun v1 => (cnd v1.1 (some ((17 : Int), a0, ([] : List Tya2e0c9))) (bd (α := ((Int × List Tya2e0c9) × Bool × Ty58ac1c × Ty7661d1)) (cnd (v1.2.1.1 != (1 : Int)) (cnd (v1.2.1.1 != (2 : Int)) (cnd (v1.2.1.1 != (3 : Int)) (cnd (v1.2.1.1 != (4 : Int)) (cnd (v1.2.1.1 != (5 : Int)) (some ((a0.2.1.1.1, a0.1.2.2.1), (v1.2.1.1 != (6 : Int)), a0, (((v1.1, v1.2.1.1), v1.2.1.2.1, v1.2.1.2.2.1, v1.2.1.2.2.2.1), (v1.2.1.2.2.2.2.1, v1.2.1.2.2.2.2.2.1), v1.2.1.2.2.2.2.2.2.1, v1.2.1.2.2.2.2.2.2.2.1, v1.2.1.2.2.2.2.2.2.2.2.1), (v1.2.1.2.2.2.2.2.2.2.2.2.1, v1.2.1.2.2.2.2.2.2.2.2.2.2.1, v1.2.1.2.2.2.2.2.2.2.2.2.2.2, v1.2.2.1.1), (v1.2.2.1.2, v1.2.2.2.1.1), v1.2.2.2.1.2, v1.2.2.2.2)) (some ((a0.2.1.1.1, a0.1.2.2.1), false, a0, (((v1.1, v1.2.1.1), v1.2.1.2.1, v1.2.1.2.2.1, v1.2.1.2.2.2.1), (v1.2.1.2.2.2.2.1, v1.2.1.2.2.2.2.2.1), v1.2.1.2.2.2.2.2.2.1, v1.2.1.2.2.2.2.2.2.2.1, v1.2.1.2.2.2.2.2.2.2.2.1), (v1.2.1.2.2.2.2.2.2.2.2.2.1, v1.2.1.2.2.2.2.2.2.2.2.2.2.1, v1.2.1.2.2.2.2.2.2.2.2.2.2.2, v1.2.2.1.1), (v1.2.2.1.2, v1.2.2.2.1.1), v1.2.2.2.1.2, v1.2.2.2.2))) (some ((a0.2.1.1.1, a0.1.2.2.1), false, a0, (((v1.1, v1.2.1.1), v1.2.1.2.1, v1.2.1.2.2.1, v1.2.1.2.2.2.1), (v1.2.1.2.2.2.2.1, v1.2.1.2.2.2.2.2.1), v1.2.1.2.2.2.2.2.2.1, v1.2.1.2.2.2.2.2.2.2.1, v1.2.1.2.2.2.2.2.2.2.2.1), (v1.2.1.2.2.2.2.2.2.2.2.2.1, v1.2.1.2.2.2.2.2.2.2.2.2.2.1, v1.2.1.2.2.2.2.2.2.2.2.2.2.2, v1.2.2.1.1), (v1.2.2.1.2, v1.2.2.2.1.1), v1.2.2.2.1.2, v1.2.2.2.2))) (some ((a0.2.1.1.1, a0.1.2.2.1), false, a0, (((v1.1, v1.2.1.1), v1.2.1.2.1, v1.2.1.2.2.1, v1.2.1.2.2.2.1), (v1.2.1.2.2.2.2.1, v1.2.1.2.2.2.2.2.1), v1.2.1.2.2.2.2.2.2.1, v1.2.1.2.2.2.2.2.2.2.1, v1.2.1.2.2.2.2.2.2.2.2.1), (v1.2.1.2.2.2.2.2.2.2.2.2.1, v1.2.1.2.2.2.2.2.2.2.2.2.2.1, v1.2.1.2.2.2.2.2.2.2.2.2.2.2, v1.2.2.1.1), (v1.2.2.1.2, v1.2.2.2.1.1), v1.2.2.2.1.2, v1.2.2.2.2))) (some ((a0.2.1.1.1, a0.1.2.2.1), false, a0, (((v1.1, v1.2.1.1), v1.2.1.2.1, v1.2.1.2.2.1, v1.2.1.2.2.2.1), (v1.2.1.2.2.2.2.1, v1.2.1.2.2.2.2.2.1), v1.2.1.2.2.2.2.2.2.1, v1.2.1.2.2.2.2.2.2.2.1, v1.2.1.2.2.2.2.2.2.2.2.1), (v1.2.1.2.2.2.2.2.2.2.2.2.1, v1.2.1.2.2.2.2.2.2.2.2.2.2.1, v1.2.1.2.2.2.2.2.2.2.2.2.2.2, v1.2.2.1.1), (v1.2.2.1.2, v1.2.2.2.1.1), v1.2.2.2.1.2, v1.2.2.2.2))) (some ((a0.2.1.1.1, a0.1.2.2.1), false, a0, (((v1.1, v1.2.1.1), v1.2.1.2.1, v1.2.1.2.2.1, v1.2.1.2.2.2.1), (v1.2.1.2.2.2.2.1, v1.2.1.2.2.2.2.2.1), v1.2.1.2.2.2.2.2.2.1, v1.2.1.2.2.2.2.2.2.2.1, v1.2.1.2.2.2.2.2.2.2.2.1), (v1.2.1.2.2.2.2.2.2.2.2.2.1, v1.2.1.2.2.2.2.2.2.2.2.2.2.1, v1.2.1.2.2.2.2.2.2.2.2.2.2.2, v1.2.2.1.1), (v1.2.2.1.2, v1.2.2.2.1.1), v1.2.2.2.1.2, v1.2.2.2.2))) (fun v2 => (cnd v2.2.1 (some ((17 : Int), v2.2.2.1, ([] : List Tya2e0c9))) (gd (decide ((0 : Int) ≤ (IntKind.wrap .i64 (v2.1.1 + (1 : Int))) ∧ (IntKind.wrap .i64 (v2.1.1 + (1 : Int))) ≤ ((v2.1.2.length : Nat) : Int))) (bd (α := (Ty58ac1c × List Tya2e0c9)) (o61 (List.take (IntKind.wrap .i64 (v2.1.1 + (1 : Int))).toNat v2.1.2) v2.2.2.1) (fun v3 => (bd (α := Int × Int) (some gv3) (fun v6 => (bd (α := (Ty58ac1c × List Tya2e0c9)) (o61v1 ([(false, (((16 : Int), (v2.2.2.2.1.1.2.1, (([] : List UInt8), (v3.1.2.2.2.2.2, (false, (v3.1.2.2.2.1, (v3.1.2.2.2.2.1, ((0 : Int), ((0 : Int), ((v6.1, v6.2), ((0 : Int), (0 : Int)))))))))))), ((v2.2.2.2.2.1.2.2.2, v2.2.2.2.2.2.1.1), (((0 : Int), (0 : Int)), (v2.2.2.2.2.2.2.2.1, ([] : List UInt8))))))] : List Tya2e0c9) v3.1 v3.2) (fun v7 => (gd (decide ((0 : Int) ≤ (IntKind.wrap .i64 (v2.1.1 + (1 : Int))) ∧ (IntKind.wrap .i64 (v2.1.1 + (1 : Int))) ≤ ((v2.1.2.length : Nat) : Int))) (bd (α := (Ty58ac1c × List Tya2e0c9)) (o61v1 (List.drop (IntKind.wrap .i64 (v2.1.1 + (1 : Int))).toNat v2.1.2) v7.1 v7.2) (fun v8 => (some ((0 : Int), v8))))))))))))))))))))
def h43 : HC := (.s .d (.s .d (.s .d (.s .d (.s (.s .d (.b (.s .d (.c .d (.s (.j false [o43_s0] .d) .d))))) (.s .d (.s (.r 2) .d)))))))
theorem e43 (t : Ty58ac1c) : evF (stpT Tryz.prog T49 K49) Tryz.f43 p43 r43 h43 t = (o43 t) := by kernel_rfl
theorem fo43 : FOk Tryz.prog 43 ⟨p43, r43, fun t => (o43 t)⟩ := FOk.run_eq (evF_ok (h := h43) (by kernel_rfl) (by kernel_rfl) (by kernel_rfl)) e43
def T50 : Tbl := (43, ⟨p43, r43, fun t => (o43 t)⟩) :: T49
theorem K50 : TOk Tryz.prog T50 := .cons K49 fo43
def Bs45cf43 : BSh := .cells 119 [.s, .cst (.slice none 0 0)]
def Ss89c165 : SSh := .tup [.agg [.s, .cst (.slice none 0 0)], .c (.ic .i64 (6))]
def o65_s0 : Sch := ⟨[(1, .v (.c (.s))), (4, .v (.c (.ptr 0 0))), (9, .v (.c (.cst (.slice none 0 0)))), (10, .v (.c (.ic .i64 (0)))), (11, .v (.c (.ic .i64 (0))))], [Bs45cf43]⟩
def p65 : Sch := ⟨[(0, Ss6de90b), (1, .v (.c (.s)))], []⟩
def r65 : List Sch := [⟨[(0, Ss89c165)], []⟩]
def o65 (a0 : Tyc0a991) (a1 : List UInt8) : Option (List UInt8) :=
 (loopO (σ := List UInt8 × List UInt8) fuelN (fun (v1 : List UInt8 × List UInt8) => (dnO (some ([] : List UInt8)))) (a1, ([] : List UInt8)))
def h65 : HC := (.s .d (.s (.s .d (.b (.l [o65_s0] .d))) .d))
theorem e65 (t : Tyc0a991 × List UInt8) : evF (stpT Tryz.prog T50 K50) Tryz.f65 p65 r65 h65 t = (o65 t.1 t.2) := by kernel_rfl
theorem fo65 : FOk Tryz.prog 65 ⟨p65, r65, fun t => (o65 t.1 t.2)⟩ := FOk.run_eq (evF_ok (h := h65) (by kernel_rfl) (by kernel_rfl) (by kernel_rfl)) e65
def T51 : Tbl := (65, ⟨p65, r65, fun t => (o65 t.1 t.2)⟩) :: T50
theorem K51 : TOk Tryz.prog T51 := .cons K50 fo65
def p44 : Sch := ⟨[(0, .v (.c (.ptr 0 0)))], [Bs73d092]⟩
def r44 : List Sch := [⟨[(0, .v (.c (.i .i64)))], [.no]⟩]
def o44 (a0 : Ty58ac1c) : Option Int :=
 (cnd (decide (a0.2.1.1.1 < a0.1.2.2.2.1)) (some (8 : Int)) (gd (decide ((0 : Int) ≤ a0.2.1.1.1 ∧ a0.2.1.1.1 < ((a0.1.2.2.1.length : Nat) : Int))) (bd (α := Tya2e0c9) (some (List.getD a0.1.2.2.1 a0.2.1.1.1.toNat Df4c50a0)) (fun v1 => (bd (α := Bool) (o64 ((((v1.1, v1.2.1.1), v1.2.1.2.1, v1.2.1.2.2.1, v1.2.1.2.2.2.1), (v1.2.1.2.2.2.2.1, v1.2.1.2.2.2.2.2.1), v1.2.1.2.2.2.2.2.2.1, v1.2.1.2.2.2.2.2.2.2.1, v1.2.1.2.2.2.2.2.2.2.2.1), (v1.2.1.2.2.2.2.2.2.2.2.2.1, v1.2.1.2.2.2.2.2.2.2.2.2.2.1, v1.2.1.2.2.2.2.2.2.2.2.2.2.2, v1.2.2.1.1), (v1.2.2.1.2, v1.2.2.2.1.1), v1.2.2.2.1.2, v1.2.2.2.2)) (fun v2 => (cnd (!v2) (some (17 : Int)) (bd (α := (List UInt8)) (o65 ((a0.1.1.1.1, a0.1.1.1.2, a0.1.1.2.1), a0.1.1.2.2.1, a0.1.1.2.2.2, a0.1.2.1.1) a0.2.1.2.1) (fun v4 => (some (6 : Int)))))))))))
def h44 : HC := (.s .d (.s .d (.s .d (.s .d (.s .d (.s (.r 1) .d))))))
theorem e44 (t : Ty58ac1c) : evF (stpT Tryz.prog T51 K51) Tryz.f44 p44 r44 h44 t = (o44 t) := by kernel_rfl
theorem fo44 : FOk Tryz.prog 44 ⟨p44, r44, fun t => (o44 t)⟩ := FOk.run_eq (evF_ok (h := h44) (by kernel_rfl) (by kernel_rfl) (by kernel_rfl)) e44
def T52 : Tbl := (44, ⟨p44, r44, fun t => (o44 t)⟩) :: T51
theorem K52 : TOk Tryz.prog T52 := .cons K51 fo44
def p68 : Sch := ⟨[(0, .v (.c (.ptr 0 0))), (1, .v (.c (.s)))], [Bs73d092]⟩
def r68 : List Sch := [⟨[(0, .v (.c (.s)))], [.no]⟩]
def o68 (a0 : List UInt8) (a1 : Ty58ac1c) : Option (List UInt8) :=
 (cnd (a1.2.1.2.2.1 == ([] : List UInt8)) (some a0) (bd (α := (List UInt8 × List UInt8 × Bool)) (o50 a0 ([47] : List UInt8)) (fun v1 => (gd (decide (v1.1.length + ([47] : List UInt8).length ≤ 140737488355328)) (gd (decide ((v1.1 ++ ([47] : List UInt8)).length + a1.2.1.2.2.1.length ≤ 140737488355328)) (some ((v1.1 ++ ([47] : List UInt8)) ++ a1.2.1.2.2.1)))))))
theorem e68 (t : List UInt8 × Ty58ac1c) : evF (stpT Tryz.prog T52 K52) Tryz.f68 p68 r68 .d t = (o68 t.1 t.2) := by kernel_rfl
theorem fo68 : FOk Tryz.prog 68 ⟨p68, r68, fun t => (o68 t.1 t.2)⟩ := FOk.run_eq (evF_ok (h := .d) (by kernel_rfl) (by kernel_rfl) (by kernel_rfl)) e68
def T53 : Tbl := (68, ⟨p68, r68, fun t => (o68 t.1 t.2)⟩) :: T52
theorem K53 : TOk Tryz.prog T53 := .cons K52 fo68
def Ss1b601f : SSh := .v (.c (.cap (.cap (.cap (.fn 111) (.ptr 0 0)) (.ptr 1 0)) (.ptr 2 0)))
def o110_s0 : Sch := ⟨[(0, .v (.c (.cst (.slice none 0 0)))), (1, Ss1b601f), (7, .v (.c (.ic .i64 (0)))), (8, .v (.c (.ic .i64 (0))))], [.cells 9 [.s], .cells 95 [.i .u8], .cells 9 [.s]]⟩
def p110 : Sch := ⟨[(0, .v (.c (.cst (.slice none 0 0)))), (1, Ss1b601f)], [.cells 9 [.s], .cells 95 [.i .u8], .cells 9 [.s]]⟩
def r110 : List Sch := [⟨[(0, .v (.c (.ic .i64 (-1))))], [.cells 9 [.s], .cells 95 [.i .u8], .cells 9 [.s]]⟩]
def o110 (a0 : List UInt8) (a1 : Int) (a2 : List UInt8) : Option (List UInt8 × Int × List UInt8) :=
 (loopO (σ := List UInt8 × Int × List UInt8) fuelN (fun (v1 : List UInt8 × Int × List UInt8) => (dnO (some v1))) (a0, a1, a2))
def h110 : HC := (.s .d (.s (.s .d (.b (.l [o110_s0] .d))) .d))
theorem e110 (t : List UInt8 × Int × List UInt8) : evF (stpT Tryz.prog T53 K53) Tryz.f110 p110 r110 h110 t = (o110 t.1 t.2.1 t.2.2) := by kernel_rfl
theorem fo110 : FOk Tryz.prog 110 ⟨p110, r110, fun t => (o110 t.1 t.2.1 t.2.2)⟩ := FOk.run_eq (evF_ok (h := h110) (by kernel_rfl) (by kernel_rfl) (by kernel_rfl)) e110
def T54 : Tbl := (110, ⟨p110, r110, fun t => (o110 t.1 t.2.1 t.2.2)⟩) :: T53
theorem K54 : TOk Tryz.prog T54 := .cons K53 fo110
def Ss9de063 : SSh := .tup [.agg [.s, .s, .ic .u8 (0), .cst (.slice none 0 0)], .c (.bc false)]
def p94 : Sch := ⟨[(0, .v (.c (.cst (.slice none 0 0)))), (1, .v (.c (.s))), (2, .v (.c (.i .u8))), (3, .v (.c (.s)))], []⟩
def r94 : List Sch := [⟨[(0, Ss9de063)], []⟩]
def o94 (a0 : List UInt8) (a1 : Int) (a2 : List UInt8) : Option (List UInt8 × List UInt8) :=
 (bd (α := (List UInt8 × Int × List UInt8)) (o110 a0 a1 a2) (fun v1 => (some (([] : List UInt8), ([] : List UInt8)))))
theorem e94 (t : List UInt8 × Int × List UInt8) : evF (stpT Tryz.prog T54 K54) Tryz.f94 p94 r94 .d t = (o94 t.1 t.2.1 t.2.2) := by kernel_rfl
theorem fo94 : FOk Tryz.prog 94 ⟨p94, r94, fun t => (o94 t.1 t.2.1 t.2.2)⟩ := FOk.run_eq (evF_ok (h := .d) (by kernel_rfl) (by kernel_rfl) (by kernel_rfl)) e94
def T55 : Tbl := (94, ⟨p94, r94, fun t => (o94 t.1 t.2.1 t.2.2)⟩) :: T54
theorem K55 : TOk Tryz.prog T55 := .cons K54 fo94
def Ss8f7824 : SSh := .tup [.agg [.s, .s, .ic .u8 (0), .cst (.slice none 0 0)], .c (.ic .i64 (6))]
def p82 : Sch := ⟨[(0, Ss6de90b), (1, .v (.c (.s))), (2, .v (.c (.i .u8))), (3, .v (.c (.s)))], []⟩
def r82 : List Sch := [⟨[(0, Ss8f7824)], []⟩]
def o82 (a0 : Tyc0a991) (a1 : List UInt8) (a2 : Int) (a3 : List UInt8) : Option (List UInt8 × List UInt8) :=
 (bd (α := (List UInt8 × List UInt8)) (o94 a1 a2 a3) (fun v1 => (some (([] : List UInt8), ([] : List UInt8)))))
theorem e82 (t : (Tyc0a991 × List UInt8) × Int × List UInt8) : evF (stpT Tryz.prog T55 K55) Tryz.f82 p82 r82 .d t = (o82 t.1.1 t.1.2 t.2.1 t.2.2) := by kernel_rfl
theorem fo82 : FOk Tryz.prog 82 ⟨p82, r82, fun t => (o82 t.1.1 t.1.2 t.2.1 t.2.2)⟩ := FOk.run_eq (evF_ok (h := .d) (by kernel_rfl) (by kernel_rfl) (by kernel_rfl)) e82
def T56 : Tbl := (82, ⟨p82, r82, fun t => (o82 t.1.1 t.1.2 t.2.1 t.2.2)⟩) :: T55
theorem K56 : TOk Tryz.prog T56 := .cons K55 fo82
def Ss7756e2 : SSh := .tup [.agg [.s, .s, .ic .u8 (0), .cst (.slice none 0 0)], .c (.cst (.slice none 0 0)), .c (.ic .i64 (6))]
def p69 : Sch := ⟨[(0, .v (.c (.ptr 0 0))), (1, .v (.c (.s))), (2, .v (.c (.i .u8)))], [Bs73d092]⟩
def r69 : List Sch := [⟨[(0, Ss7756e2)], [.no]⟩]
def o69 (a0 : List UInt8) (a1 : Int) (a2 : Ty58ac1c) : Option (List UInt8 × List UInt8) :=
 (bd (α := (List UInt8 × List UInt8 × Bool)) (o50 a0 ([47] : List UInt8)) (fun v1 => (bd (α := (List UInt8 × List UInt8)) (o82 ((a2.1.1.1.1, a2.1.1.1.2, a2.1.1.2.1), a2.1.1.2.2.1, a2.1.1.2.2.2, a2.1.2.1.1) v1.1 a1 a2.2.1.2.1) (fun v3 => (some v3)))))
theorem e69 (t : List UInt8 × Int × Ty58ac1c) : evF (stpT Tryz.prog T56 K56) Tryz.f69 p69 r69 (.s .d (.s .d (.s (.r 1) .d))) t = (o69 t.1 t.2.1 t.2.2) := by kernel_rfl
theorem fo69 : FOk Tryz.prog 69 ⟨p69, r69, fun t => (o69 t.1 t.2.1 t.2.2)⟩ := FOk.run_eq (evF_ok (h := (.s .d (.s .d (.s (.r 1) .d)))) (by kernel_rfl) (by kernel_rfl) (by kernel_rfl)) e69
def T57 : Tbl := (69, ⟨p69, r69, fun t => (o69 t.1 t.2.1 t.2.2)⟩) :: T56
theorem K57 : TOk Tryz.prog T57 := .cons K56 fo69
def p45 : Sch := ⟨[(0, .v (.c (.ptr 0 0)))], [Bsf6d837]⟩
def r45 : List Sch := [⟨[(0, .v (.c (.i .i64)))], [Bsf6d837]⟩]
def o45 (a0 : Ty58ac1c) : Option (Int × Ty58ac1c) :=
 (cnd (a0.1.2.2.2.1 != (-1 : Int)) (some ((8 : Int), a0)) (cnd (a0.1.2.1.2.1 == ([] : List UInt8)) (some ((6 : Int), a0)) (bd (α := (List UInt8)) (o68 a0.1.2.1.2.1 a0) (fun v1 => (bd (α := (List UInt8 × List UInt8)) (o69 v1 (1 : Int) ((a0.1.1, (a0.1.2.1.1, v1, a0.1.2.1.2.2), a0.1.2.2), a0.2)) (fun v2 => (some ((6 : Int), (a0.1.1, (a0.1.2.1.1, v1, a0.1.2.1.2.2), a0.1.2.2), a0.2))))))))
theorem e45 (t : Ty58ac1c) : evF (stpT Tryz.prog T57 K57) Tryz.f45 p45 r45 .d t = (o45 t) := by kernel_rfl
theorem fo45 : FOk Tryz.prog 45 ⟨p45, r45, fun t => (o45 t)⟩ := FOk.run_eq (evF_ok (h := .d) (by kernel_rfl) (by kernel_rfl) (by kernel_rfl)) e45
def T58 : Tbl := (45, ⟨p45, r45, fun t => (o45 t)⟩) :: T57
theorem K58 : TOk Tryz.prog T58 := .cons K57 fo45
def o46_s0 : Sch := ⟨[(0, .v (.c (.ptr 0 0))), (1, .v (.c (.i .u8))), (5, .v (.c (.ptr 1 0))), (7, Ssac53df), (8, .v (.c (.i .i64))), (42, .v (.c (.b)))], [Bsf6d837, .cells 56 [.i .u8]]⟩
def o46_s1 : Sch := ⟨[(0, .v (.c (.ptr 0 0))), (1, .v (.c (.i .u8))), (5, .v (.c (.ptr 1 0))), (7, Ssac53df), (8, .v (.c (.i .i64))), (9, .v (.c (.s)))], [Bsf6d837, .cells 56 [.i .u8]]⟩
def p46 : Sch := ⟨[(0, .v (.c (.ptr 0 0))), (1, .v (.c (.i .u8))), (2, .v (.c (.i .u8)))], [Bsf6d837]⟩
def r46 : List Sch := [⟨[(0, .v (.c (.i .i64)))], [Bsf6d837]⟩]
def o46 (a0 : Int) (a1 : Int) (a2 : Ty58ac1c) : Option (Int × Ty58ac1c) :=
 (cnd (a2.1.2.1.2.2 == ([] : List UInt8)) (some ((6 : Int), a2)) (bd (α := ((Int × List Tya2e0c9 × Int) × Bool × Ty58ac1c × Int)) (cnd (a2.1.2.2.2.1 != (-1 : Int)) (gd (decide ((0 : Int) ≤ a2.1.2.2.2.1 ∧ a2.1.2.2.2.1 < ((a2.1.2.2.1.length : Nat) : Int))) (some ((a0, a2.1.2.2.1, a2.1.2.2.2.1), (decide ((((((List.getD a2.1.2.2.1 a2.1.2.2.2.1.toNat Df4c50a0).2).2).2).2).1 ≥ a1)), a2, a1))) (some ((a0, a2.1.2.2.1, a2.1.2.2.2.1), false, a2, a1))) (fun v1 => (cnd v1.2.1 (some ((8 : Int), v1.2.2.1)) (bd (α := ((Int × List Tya2e0c9 × Int) × List UInt8 × Ty58ac1c × Int)) (cnd (v1.1.1 == (2 : Int)) (bd (α := (List UInt8)) (o68 v1.2.2.1.1.2.1.2.2 v1.2.2.1) (fun v2 => (some (v1.1, v1.2.2.1.1.2.1.2.2, ((v1.2.2.1.1.1, (v1.2.2.1.1.2.1.1, v1.2.2.1.1.2.1.2.1, v2), v1.2.2.1.1.2.2), v1.2.2.1.2), v1.2.2.2)))) (some (v1.1, v1.2.2.1.1.2.1.2.2, v1.2.2))) (fun v3 => (bd (α := (List UInt8 × List UInt8)) (o69 v3.2.2.1.1.2.1.2.2 v3.1.1 v3.2.2.1) (fun v4 => (some ((6 : Int), v3.2.2.1))))))))))
def h46 : HC := (.s .d (.s .d (.s (.b (.s .d (.c .d (.s (.j false [o46_s0] .d) .d)))) (.s .d (.j false [o46_s1] .d)))))
theorem e46 (t : Int × Int × Ty58ac1c) : evF (stpT Tryz.prog T58 K58) Tryz.f46 p46 r46 h46 t = (o46 t.1 t.2.1 t.2.2) := by kernel_rfl
theorem fo46 : FOk Tryz.prog 46 ⟨p46, r46, fun t => (o46 t.1 t.2.1 t.2.2)⟩ := FOk.run_eq (evF_ok (h := h46) (by kernel_rfl) (by kernel_rfl) (by kernel_rfl)) e46
def T59 : Tbl := (46, ⟨p46, r46, fun t => (o46 t.1 t.2.1 t.2.2)⟩) :: T58
theorem K59 : TOk Tryz.prog T59 := .cons K58 fo46
def o84_s0 : Sch := ⟨[(2, .v (.c (.s))), (3, .v (.c (.s))), (22, .v (.c (.b)))], []⟩
def p84 : Sch := ⟨[(0, .v (.c (.s)))], []⟩
def r84 : List Sch := [⟨[(0, .tup [.c (.s), .c (.s), .c (.b)])], []⟩]
def o84 (a0 : List UInt8) : Option (List UInt8 × List UInt8 × Bool) :=
 (bd (α := (List UInt8 × List UInt8 × Bool)) (o50 a0 ([47] : List UInt8)) (fun v1 => (bd (α := (List UInt8 × List UInt8 × Bool)) (bd (α := Bool) (o51 v1.1 (6 : Int)) (fun v2 => (cnd (!v2) (some (v1.1, v1.2.1, true)) (cnd v1.2.2 (bd (α := Bool) (o51 v1.2.1 (6 : Int)) (fun v3 => (some (v1.1, v1.2.1, (!v3))))) (some (v1.1, v1.2.1, false)))))) (fun v4 => (cnd v4.2.2 (some (([] : List UInt8), ([] : List UInt8), false)) (some (v4.1, v4.2.1, true)))))))
def h84 : HC := (.s .d (.s .d (.s (.s (.j false [o84_s0] .d) .d) .d)))
theorem e84 (t : List UInt8) : evF (stpT Tryz.prog T59 K59) Tryz.f84 p84 r84 h84 t = (o84 t) := by kernel_rfl
theorem fo84 : FOk Tryz.prog 84 ⟨p84, r84, fun t => (o84 t)⟩ := FOk.run_eq (evF_ok (h := h84) (by kernel_rfl) (by kernel_rfl) (by kernel_rfl)) e84
def T60 : Tbl := (84, ⟨p84, r84, fun t => (o84 t)⟩) :: T59
theorem K60 : TOk Tryz.prog T60 := .cons K59 fo84
def o70_s0 : Sch := ⟨[(6, .v (.c (.s))), (39, .v (.c (.cst (.slice none 0 0)))), (40, .v (.c (.ic .i64 (0)))), (41, .v (.c (.ic .i64 (0))))], []⟩
def p70 : Sch := ⟨[(0, Ss6de90b), (1, .v (.c (.s)))], []⟩
def r70 : List Sch := [⟨[(0, .tup [.c (.s), .c (.i .i64)])], []⟩]
def o70 (a0 : Tyc0a991) (a1 : List UInt8) : Option (List UInt8 × Int) :=
 (bd (α := (List UInt8 × List UInt8 × Bool)) (o84 a1) (fun v1 => (cnd (!v1.2.2) (some (([] : List UInt8), (4 : Int))) (cnd (!(v1.2.1 == ([] : List UInt8))) (gd (decide (v1.2.1.length + ([47] : List UInt8).length ≤ 140737488355328)) (gd (decide ((v1.2.1 ++ ([47] : List UInt8)).length + v1.1.length ≤ 140737488355328)) (bd (α := (List UInt8 × List UInt8)) (o85 a0 ((v1.2.1 ++ ([47] : List UInt8)) ++ v1.1)) (fun v2 => (some (([] : List UInt8), (6 : Int))))))) (loopO (σ := List UInt8) fuelN (fun (v3 : List UInt8) => (dnO (some (([] : List UInt8), (6 : Int))))) v1.1)))))
def h70 : HC := (.s .d (.s .d (.s .d (.s .d (.s (.s .d (.b (.l [o70_s0] .d))) .d)))))
theorem e70 (t : Tyc0a991 × List UInt8) : evF (stpT Tryz.prog T60 K60) Tryz.f70 p70 r70 h70 t = (o70 t.1 t.2) := by kernel_rfl
theorem fo70 : FOk Tryz.prog 70 ⟨p70, r70, fun t => (o70 t.1 t.2)⟩ := FOk.run_eq (evF_ok (h := h70) (by kernel_rfl) (by kernel_rfl) (by kernel_rfl)) e70
def T61 : Tbl := (70, ⟨p70, r70, fun t => (o70 t.1 t.2)⟩) :: T60
theorem K61 : TOk Tryz.prog T61 := .cons K60 fo70
def p47 : Sch := ⟨[(0, .v (.c (.ptr 0 0)))], [Bsf6d837]⟩
def r47 : List Sch := [⟨[(0, .v (.c (.i .i64)))], [Bsae0beb, Bs214155]⟩]
def o47 (a0 : Ty58ac1c) : Option (Int × Ty58ac1c × List Tya2e0c9) :=
 (cnd (decide (a0.2.1.1.1 < a0.1.2.2.2.1)) (some ((8 : Int), a0, ([] : List Tya2e0c9))) (gd (decide ((0 : Int) ≤ a0.2.1.1.1 ∧ a0.2.1.1.1 < ((a0.1.2.2.1.length : Nat) : Int))) (bd (α := Tya2e0c9) (some (List.getD a0.1.2.2.1 a0.2.1.1.1.toNat Df4c50a0)) (fun v1 => (bd (α := Bool) (o64 ((((v1.1, v1.2.1.1), v1.2.1.2.1, v1.2.1.2.2.1, v1.2.1.2.2.2.1), (v1.2.1.2.2.2.2.1, v1.2.1.2.2.2.2.2.1), v1.2.1.2.2.2.2.2.2.1, v1.2.1.2.2.2.2.2.2.2.1, v1.2.1.2.2.2.2.2.2.2.2.1), (v1.2.1.2.2.2.2.2.2.2.2.2.1, v1.2.1.2.2.2.2.2.2.2.2.2.2.1, v1.2.1.2.2.2.2.2.2.2.2.2.2.2, v1.2.2.1.1), (v1.2.2.1.2, v1.2.2.2.1.1), v1.2.2.2.1.2, v1.2.2.2.2)) (fun v2 => (cnd (!v2) (some ((17 : Int), a0, ([] : List Tya2e0c9))) (bd (α := (List UInt8 × Int)) (o70 ((a0.1.1.1.1, a0.1.1.1.2, a0.1.1.2.1), a0.1.1.2.2.1, a0.1.1.2.2.2, a0.1.2.1.1) a0.2.1.2.1) (fun v4 => (cnd (v4.2 != (0 : Int)) (some (v4.2, a0, ([] : List Tya2e0c9))) (gd (decide ((0 : Int) ≤ a0.2.1.1.1 ∧ a0.2.1.1.1 < ((a0.1.2.2.1.length : Nat) : Int))) (bd (α := Ty4a8e28) (o63 (2 : Int) v4.1 ((((((List.getD a0.1.2.2.1 a0.2.1.1.1.toNat Df4c50a0).2).2).2).2).1) ([] : List UInt8) a0) (fun v5 => (cnd (v5.2.2.2.2.2 != (0 : Int)) (some (v5.2.2.2.2.2, a0, ([] : List Tya2e0c9))) (gd (decide ((0 : Int) ≤ (IntKind.wrap .i64 (a0.2.1.1.1 + (1 : Int))) ∧ (IntKind.wrap .i64 (a0.2.1.1.1 + (1 : Int))) ≤ ((a0.1.2.2.1.length : Nat) : Int))) (bd (α := (Ty58ac1c × List Tya2e0c9)) (o61 (List.take (IntKind.wrap .i64 (a0.2.1.1.1 + (1 : Int))).toNat a0.1.2.2.1) ((a0.1.1, (a0.1.2.1.1, a0.1.2.1.2.1, a0.2.1.2.1), a0.1.2.2), a0.2)) (fun v6 => (bd (α := (Ty58ac1c × List Tya2e0c9)) (o61v1 ([(v5.1.1.1.1, ((v5.1.1.1.2, (v5.1.1.2.1, (v5.1.1.2.2.1, (v5.1.1.2.2.2, (v5.1.2.1.1, (v5.1.2.1.2, (v5.1.2.2.1, (v5.1.2.2.2.1, (v5.1.2.2.2.2, ((v5.2.1.1.1, v5.2.1.1.2), (v5.2.1.2.1, v5.2.1.2.2.1))))))))))), ((v5.2.1.2.2.2, v5.2.2.1.1), ((v5.2.2.1.2.1, v5.2.2.1.2.2), (v5.2.2.2.1, v5.2.2.2.2.1)))))] : List Tya2e0c9) v6.1 v6.2) (fun v7 => (some ((0 : Int), v7)))))))))))))))))))))
theorem e47 (t : Ty58ac1c) : evF (stpT Tryz.prog T61 K61) Tryz.f47 p47 r47 .d t = (o47 t) := by kernel_rfl
theorem fo47 : FOk Tryz.prog 47 ⟨p47, r47, fun t => (o47 t)⟩ := FOk.run_eq (evF_ok (h := .d) (by kernel_rfl) (by kernel_rfl) (by kernel_rfl)) e47
def T62 : Tbl := (47, ⟨p47, r47, fun t => (o47 t)⟩) :: T61
theorem K62 : TOk Tryz.prog T62 := .cons K61 fo47
def o21_s0 : Sch := ⟨[(0, .v (.c (.ptr 0 0))), (43, .v (.c (.b)))], [Bsf6d837]⟩
def o21_s1 : Sch := ⟨[(0, .v (.c (.ptr 0 0))), (48, .v (.c (.i .u8))), (61, .v (.c (.b)))], [Bsf6d837]⟩
def o21_s2 : Sch := ⟨[(0, .v (.c (.ptr 0 0)))], [Bsf6d837]⟩
def p21 : Sch := ⟨[(0, .v (.c (.ptr 0 0)))], [Bsf6d837]⟩
def r21 : List Sch := [⟨[(0, .v (.c (.i .i64)))], [Bsae0beb, Bs214155]⟩]
def o21 (a0 : Ty58ac1c) : Option (Int × Ty58ac1c × List Tya2e0c9) :=
 (jd (α := Ty58ac1c) (gd (decide ((0 : Int) ≤ a0.1.2.2.2.2 ∧ a0.1.2.2.2.2 < (13 : Int))) (bd (α := Int) (o36 ((List.getD gl0 a0.1.2.2.2.2.toNat (([] : List UInt8), ([] : List UInt8))).2) (97 : Int)) (fun v1 => (cnd (decide (v1 ≥ (0 : Int))) (bd (α := (Bool × Ty58ac1c)) (cnd (decide (a0.2.1.1.1 > ((a0.1.2.2.1.length : Nat) : Int))) (some (true, a0)) (cnd (a0.2.1.1.1 == ((a0.1.2.2.1.length : Nat) : Int)) (some ((a0.1.2.2.2.2 != (1 : Int)), a0)) (some (false, a0)))) (fun v2 => (cnd v2.1 (dnO (some ((6 : Int), v2.2, ([] : List Tya2e0c9)))) (some (Ctl.go v2.2))))) (some (Ctl.go a0)))))) (fun v3 => (cnd (v3.1.2.2.2.2 == (1 : Int)) (bd (α := (Int × Ty58ac1c × List Tya2e0c9)) (o39 v3) (fun v4 => (some v4))) (cnd (v3.1.2.2.2.2 == (2 : Int)) (bd (α := (Int × Ty58ac1c × List Tya2e0c9)) (o40 v3) (fun v5 => (some v5))) (cnd (v3.1.2.2.2.2 == (3 : Int)) (bd (α := (Int × Ty58ac1c × List Tya2e0c9)) (o41 v3) (fun v6 => (some v6))) (bd (α := (Int × Bool × Ty58ac1c)) (cnd (v3.1.2.2.2.2 == (4 : Int)) (some (v3.1.2.2.2.2, true, v3)) (cnd (v3.1.2.2.2.2 == (5 : Int)) (some (v3.1.2.2.2.2, true, v3)) (some (v3.1.2.2.2.2, (v3.1.2.2.2.2 == (6 : Int)), v3)))) (fun v7 => (cnd v7.2.1 (bd (α := (Int × Ty58ac1c × List Tya2e0c9)) (o42 v7.2.2) (fun v8 => (some v8))) (cnd (v7.1 == (7 : Int)) (bd (α := (Int × Ty58ac1c × List Tya2e0c9)) (o43 v7.2.2) (fun v9 => (some v9))) (cnd (v7.1 == (8 : Int)) (bd (α := Int) (o44 v7.2.2) (fun v10 => (some (v10, v7.2.2, ([] : List Tya2e0c9))))) (cnd (v7.1 == (9 : Int)) (bd (α := (Int × Ty58ac1c)) (o45 v7.2.2) (fun v11 => (some (v11.1, v11.2, ([] : List Tya2e0c9))))) (cnd (v7.1 == (10 : Int)) (bd (α := (Int × Ty58ac1c)) (o46 (2 : Int) (3 : Int) v7.2.2) (fun v12 => (some (v12.1, v12.2, ([] : List Tya2e0c9))))) (cnd (v7.1 == (11 : Int)) (bd (α := (Int × Ty58ac1c)) (o46 (3 : Int) (4 : Int) v7.2.2) (fun v13 => (some (v13.1, v13.2, ([] : List Tya2e0c9))))) (bd (α := (Int × Ty58ac1c × List Tya2e0c9)) (o47 v7.2.2) (fun v14 => (some v14))))))))))))))))
def h21 : HC := (.s .d (.j true [o21_s2] (.s (.s .d (.c (.s .d (.s (.j false [o21_s0] .d) .d)) .d)) (.s (.s .d (.b (.s .d (.c .d (.s .d (.c .d (.s .d (.c .d (.j false [o21_s1] .d))))))))) .d))))
theorem e21 (t : Ty58ac1c) : evF (stpT Tryz.prog T62 K62) Tryz.f21 p21 r21 h21 t = (o21 t) := by kernel_rfl
theorem fo21 : FOk Tryz.prog 21 ⟨p21, r21, fun t => (o21 t)⟩ := FOk.run_eq (evF_ok (h := h21) (by kernel_rfl) (by kernel_rfl) (by kernel_rfl)) e21
def T63 : Tbl := (21, ⟨p21, r21, fun t => (o21 t)⟩) :: T62
theorem K63 : TOk Tryz.prog T63 := .cons K62 fo21
def Bs366f0e : BSh := .cells 63 [.bc false, .ic .u8 (0), .s, .s, .ic .u8 (0), .bc false, .ic .i64 (0), .ic .i64 (0), .ic .i64 (0), .ic .i64 (0), .ic .i64 (0), .ic .i64 (0), .ic .i64 (0), .ic .i64 (0), .ic .i64 (0), .ic .i64 (0), .ic .i64 (0), .ic .i64 (0), .ic .u8 (0), .s]
def Ss0e52aa : SSh := .tup [.agg [.b, .i .u8, .s, .s, .i .u8, .b, .i .i64, .i .i64, .i .i64, .i .i64, .i .i64, .i .i64, .i .i64, .i .i64, .i .i64, .i .i64, .i .i64, .i .i64, .i .u8, .s], .c (.b)]
abbrev Ty83ac7a : Type := (((Bool × Int) × List UInt8 × List UInt8 × Int) × (Bool × Int) × Int × Int × Int) × ((Int × Int) × Int × Int × Int) × (Int × Int × Int) × Int × List UInt8 × Bool
def o48_s0 : Sch := ⟨[(1, .v (.c (.ptr 0 0))), (2, .v (.c (.ptr 1 0))), (12, .v (.c (.b)))], [Bsa7a67f, Bs366f0e]⟩
def p48 : Sch := ⟨[(0, Ss9a7268)], []⟩
def r48 : List Sch := [⟨[(0, Ss0e52aa)], []⟩]
def o48 (a0 : Ty7661d1) : Option Ty83ac7a :=
 (bd (α := Bool) (o16 a0.1.1.1.2) (fun v1 => (cnd v1 (some (a0.1, a0.2.1, (a0.2.2.1.1, a0.2.2.1.2, a0.2.2.2.1), a0.2.2.2.2.1, a0.2.2.2.2.2, true)) (bd (α := (Bool × Ty7661d1 × List UInt8 × List UInt8 × List UInt8)) (cnd (a0.1.1.1.2 == (2 : Int)) (some (true, a0, ([] : List UInt8), ([] : List UInt8), ([] : List UInt8))) (cnd (a0.1.1.1.2 == (5 : Int)) (some (true, a0, ([] : List UInt8), ([] : List UInt8), ([] : List UInt8))) (some ((a0.1.1.1.2 == (6 : Int)), a0, ([] : List UInt8), ([] : List UInt8), ([] : List UInt8))))) (fun v2 => (cnd v2.1 (some ((((v2.2.1.1.1.1.1, (1 : Int)), v2.2.1.1.1.2.1, ([] : List UInt8), (0 : Int)), (false, (0 : Int)), (0 : Int), (0 : Int), (0 : Int)), v2.2.1.2.1, (v2.2.1.2.2.1.1, (0 : Int), (0 : Int)), v2.2.1.2.2.2.2.1, v2.2.1.2.2.2.2.2, true)) (some ((((false, (0 : Int)), ([] : List UInt8), ([] : List UInt8), (0 : Int)), (false, (0 : Int)), (0 : Int), (0 : Int), (0 : Int)), (((0 : Int), (0 : Int)), (0 : Int), (0 : Int), (0 : Int)), ((0 : Int), (0 : Int), (0 : Int)), (0 : Int), ([] : List UInt8), false))))))))
def h48 : HC := (.s .d (.s .d (.s (.s .d (.b (.j false [o48_s0] .d))) .d)))
theorem e48 (t : Ty7661d1) : evF (stpT Tryz.prog T63 K63) Tryz.f48 p48 r48 h48 t = (o48 t) := by kernel_rfl
theorem fo48 : FOk Tryz.prog 48 ⟨p48, r48, fun t => (o48 t)⟩ := FOk.run_eq (evF_ok (h := h48) (by kernel_rfl) (by kernel_rfl) (by kernel_rfl)) e48
def T64 : Tbl := (48, ⟨p48, r48, fun t => (o48 t)⟩) :: T63
theorem K64 : TOk Tryz.prog T64 := .cons K63 fo48
abbrev Tye35d36 : Type := (Bool × List Tya2e0c9 × Int) × Int × List Tya2e0c9 × Ty7661d1
abbrev Ty93e787 : Type := (Bool × List Tya2e0c9 × Int) × (Int × Bool) × List Tya2e0c9 × Ty7661d1
abbrev Ty139027 : Type := ((Bool × List Tya2e0c9) × Int × Int) × (Bool × List Tya2e0c9) × Ty7661d1 × Ty22ecb9
def o22_s0 : Sch := ⟨[(3, .v (.c (.own 0))), (4, .v (.c (.b))), (6, .v (.c (.ptr 1 0))), (11, Sse569ae), (12, .v (.c (.i .i64))), (13, .v (.c (.i .i64))), (25, .v (.c (.b)))], [Bs214155, Bsa7a67f]⟩
def o22_s1 : Sch := ⟨[(3, .v (.c (.own 0))), (4, .v (.c (.b))), (6, .v (.c (.ptr 1 0))), (7, .v (.c (.ptr 2 0))), (11, Sse569ae), (12, .v (.c (.i .i64))), (13, .v (.c (.i .i64))), (51, .v (.c (.b)))], [Bs214155, Bsa7a67f, Bsfd353c]⟩
def o22_s2 : Sch := ⟨[(3, .v (.c (.own 0))), (4, .v (.c (.b))), (11, Sse569ae), (12, .v (.c (.i .i64))), (13, .v (.c (.i .i64)))], [Bs214155]⟩
def o22_s3 : Sch := ⟨[(3, .v (.c (.own 0))), (9, .v (.c (.ptr 1 0))), (11, Sse569ae), (12, .v (.c (.i .i64))), (13, .v (.c (.i .i64)))], [Bs214155, Bsa7a67f]⟩
def o22_s4 : Sch := ⟨[(3, .v (.c (.own 0))), (4, .v (.c (.b))), (6, .v (.c (.ptr 1 0))), (11, Sse569ae), (12, .v (.c (.i .i64))), (13, .v (.c (.i .i64)))], [Bs214155, Bsa7a67f]⟩
def p22 : Sch := ⟨[(0, Sse569ae)], []⟩
def r22 : List Sch := [⟨[(0, .v (.c (.own 0)))], [Bs214155]⟩]
def o22 (a0 : List Tya2e0c9) : Option (List Tya2e0c9) :=
 (loopO (σ := (Bool × List Tya2e0c9) × Int × Int × List Tya2e0c9) fuelN (fun (v2 : (Bool × List Tya2e0c9) × Int × Int × List Tya2e0c9) => (cnd (decide (v2.2.2.1 < v2.2.1)) (gd (decide ((0 : Int) ≤ v2.2.2.1 ∧ v2.2.2.1 < ((v2.1.2.length : Nat) : Int))) (bd (α := Tya2e0c9) (some (List.getD v2.1.2 v2.2.2.1.toNat Df4c50a0)) (fun v3 => (cnd v3.1 (some (Ctl.go ((true, v2.1.2), v2.2.1, (IntKind.wrap .i64 (v2.2.2.1 + (1 : Int))), v2.2.2.2))) (jd (α := Tye35d36) (bd (α := Ty93e787) (cnd (decide (((v2.2.2.2.length : Nat) : Int) > (0 : Int))) (some ((v2.1.1, v2.1.2, v2.2.1), (v2.2.2.1, (!v2.1.1)), v2.2.2.2, (((v3.1, v3.2.1.1), v3.2.1.2.1, v3.2.1.2.2.1, v3.2.1.2.2.2.1), (v3.2.1.2.2.2.2.1, v3.2.1.2.2.2.2.2.1), v3.2.1.2.2.2.2.2.2.1, v3.2.1.2.2.2.2.2.2.2.1, v3.2.1.2.2.2.2.2.2.2.2.1), (v3.2.1.2.2.2.2.2.2.2.2.2.1, v3.2.1.2.2.2.2.2.2.2.2.2.2.1, v3.2.1.2.2.2.2.2.2.2.2.2.2.2, v3.2.2.1.1), (v3.2.2.1.2, v3.2.2.2.1.1), v3.2.2.2.1.2, v3.2.2.2.2)) (some ((v2.1.1, v2.1.2, v2.2.1), (v2.2.2.1, false), v2.2.2.2, (((v3.1, v3.2.1.1), v3.2.1.2.1, v3.2.1.2.2.1, v3.2.1.2.2.2.1), (v3.2.1.2.2.2.2.1, v3.2.1.2.2.2.2.2.1), v3.2.1.2.2.2.2.2.2.1, v3.2.1.2.2.2.2.2.2.2.1, v3.2.1.2.2.2.2.2.2.2.2.1), (v3.2.1.2.2.2.2.2.2.2.2.2.1, v3.2.1.2.2.2.2.2.2.2.2.2.2.1, v3.2.1.2.2.2.2.2.2.2.2.2.2.2, v3.2.2.1.1), (v3.2.2.1.2, v3.2.2.2.1.1), v3.2.2.2.1.2, v3.2.2.2.2))) (fun v4 => (cnd v4.2.1.2 (gd (decide ((0 : Int) ≤ (IntKind.wrap .i64 (((v4.2.2.1.length : Nat) : Int) - (1 : Int))) ∧ (IntKind.wrap .i64 (((v4.2.2.1.length : Nat) : Int) - (1 : Int))) < ((v4.2.2.1.length : Nat) : Int))) (bd (α := Tya2e0c9) (some (List.getD v4.2.2.1 ((IntKind.wrap .i64 (((v4.2.2.1.length : Nat) : Int) - (1 : Int))).toNat) Df4c50a0)) (fun v5 => (bd (α := Ty139027) (bd (α := Bool) (o18 (((v5.2.1.1, v5.2.1.2.1, v5.2.1.2.2.1), v5.2.1.2.2.2.1, v5.2.1.2.2.2.2.1, v5.2.1.2.2.2.2.2.1), (v5.2.1.2.2.2.2.2.2.1, v5.2.1.2.2.2.2.2.2.2.1, v5.2.1.2.2.2.2.2.2.2.2.1), v5.2.1.2.2.2.2.2.2.2.2.2) (((v4.2.2.2.1.1.1.2, v4.2.2.2.1.1.2.1, v4.2.2.2.1.1.2.2.1), v4.2.2.2.1.1.2.2.2, v4.2.2.2.1.2.1), v4.2.2.2.1.2.2, v4.2.2.2.2.1.1, v4.2.2.2.2.1.2.1, v4.2.2.2.2.1.2.2.1)) (fun v6 => (cnd v6 (cnd (v4.2.2.2.1.1.1.2 == (1 : Int)) (some (((v4.1.1, v4.1.2.1), v4.1.2.2, v4.2.1.1), (true, v4.2.2.1), v4.2.2.2, ((v5.2.1.1, v5.2.1.2.1, v5.2.1.2.2.1), v5.2.1.2.2.2.1, v5.2.1.2.2.2.2.1, v5.2.1.2.2.2.2.2.1), (v5.2.1.2.2.2.2.2.2.1, v5.2.1.2.2.2.2.2.2.2.1, v5.2.1.2.2.2.2.2.2.2.2.1), v5.2.1.2.2.2.2.2.2.2.2.2)) (cnd (v4.2.2.2.1.1.1.2 == (2 : Int)) (some (((v4.1.1, v4.1.2.1), v4.1.2.2, v4.2.1.1), (true, v4.2.2.1), v4.2.2.2, ((v5.2.1.1, v5.2.1.2.1, v5.2.1.2.2.1), v5.2.1.2.2.2.1, v5.2.1.2.2.2.2.1, v5.2.1.2.2.2.2.2.1), (v5.2.1.2.2.2.2.2.2.1, v5.2.1.2.2.2.2.2.2.2.1, v5.2.1.2.2.2.2.2.2.2.2.1), v5.2.1.2.2.2.2.2.2.2.2.2)) (some (((v4.1.1, v4.1.2.1), v4.1.2.2, v4.2.1.1), ((v4.2.2.2.1.1.1.2 == (4 : Int)), v4.2.2.1), v4.2.2.2, ((v5.2.1.1, v5.2.1.2.1, v5.2.1.2.2.1), v5.2.1.2.2.2.1, v5.2.1.2.2.2.2.1, v5.2.1.2.2.2.2.2.1), (v5.2.1.2.2.2.2.2.2.1, v5.2.1.2.2.2.2.2.2.2.1, v5.2.1.2.2.2.2.2.2.2.2.1), v5.2.1.2.2.2.2.2.2.2.2.2)))) (some (((v4.1.1, v4.1.2.1), v4.1.2.2, v4.2.1.1), (false, v4.2.2.1), v4.2.2.2, ((v5.2.1.1, v5.2.1.2.1, v5.2.1.2.2.1), v5.2.1.2.2.2.1, v5.2.1.2.2.2.2.1, v5.2.1.2.2.2.2.2.1), (v5.2.1.2.2.2.2.2.2.1, v5.2.1.2.2.2.2.2.2.2.1, v5.2.1.2.2.2.2.2.2.2.2.1), v5.2.1.2.2.2.2.2.2.2.2.2))))) (fun v7 => (cnd v7.2.1.1 (dnO (some (Ctl.go (v7.1.1, v7.1.2.1, (IntKind.wrap .i64 (v7.1.2.2 + (1 : Int))), v7.2.1.2)))) (bd (α := Bool) (o17 v7.2.2.2 (((v7.2.2.1.1.1.1.2, v7.2.2.1.1.1.2.1, v7.2.2.1.1.1.2.2.1), v7.2.2.1.1.1.2.2.2, v7.2.2.1.1.2.1), v7.2.2.1.1.2.2, v7.2.2.1.2.1.1, v7.2.2.1.2.1.2.1, v7.2.2.1.2.1.2.2.1)) (fun v8 => (cnd v8 (gd (decide ((v7.2.1.2.length + ([(v7.2.2.1.1.1.1.1, ((v7.2.2.1.1.1.1.2, (v7.2.2.1.1.1.2.1, (v7.2.2.1.1.1.2.2.1, (v7.2.2.1.1.1.2.2.2, (v7.2.2.1.1.2.1.1, (v7.2.2.1.1.2.1.2, (v7.2.2.1.1.2.2.1, (v7.2.2.1.1.2.2.2.1, (v7.2.2.1.1.2.2.2.2, ((v7.2.2.1.2.1.1.1, v7.2.2.1.2.1.1.2), (v7.2.2.1.2.1.2.1, v7.2.2.1.2.1.2.2.1))))))))))), ((v7.2.2.1.2.1.2.2.2, v7.2.2.1.2.2.1.1), ((v7.2.2.1.2.2.1.2, v7.2.2.1.2.2.2.1), (v7.2.2.1.2.2.2.2.1, v7.2.2.1.2.2.2.2.2)))))] : List Tya2e0c9).length) * 176 ≤ 140737488355328)) (dnO (some (Ctl.go (v7.1.1, v7.1.2.1, (IntKind.wrap .i64 (v7.1.2.2 + (1 : Int))), (v7.2.1.2 ++ ([(v7.2.2.1.1.1.1.1, ((v7.2.2.1.1.1.1.2, (v7.2.2.1.1.1.2.1, (v7.2.2.1.1.1.2.2.1, (v7.2.2.1.1.1.2.2.2, (v7.2.2.1.1.2.1.1, (v7.2.2.1.1.2.1.2, (v7.2.2.1.1.2.2.1, (v7.2.2.1.1.2.2.2.1, (v7.2.2.1.1.2.2.2.2, ((v7.2.2.1.2.1.1.1, v7.2.2.1.2.1.1.2), (v7.2.2.1.2.1.2.1, v7.2.2.1.2.1.2.2.1))))))))))), ((v7.2.2.1.2.1.2.2.2, v7.2.2.1.2.2.1.1), ((v7.2.2.1.2.2.1.2, v7.2.2.1.2.2.2.1), (v7.2.2.1.2.2.2.2.1, v7.2.2.1.2.2.2.2.2)))))] : List Tya2e0c9))))))) (some (Ctl.go ((v7.1.1.1, v7.1.1.2, v7.1.2.1), v7.1.2.2, v7.2.1.2, v7.2.2.1)))))))))))) (some (Ctl.go (v4.1, v4.2.1.1, v4.2.2)))))) (fun v9 => (bd (α := Ty83ac7a) (o48 v9.2.2.2) (fun v10 => (cnd (!v10.2.2.2.2.2) (bd (α := ((Bool × List Tya2e0c9) × Int × Int × List Tya2e0c9)) (cnd v9.1.1 (some ((true, v9.1.2.1), v9.1.2.2, v9.2.1, v9.2.2.1)) (some (((decide (((v9.2.2.1.length : Nat) : Int) > (0 : Int))), v9.1.2.1), v9.1.2.2, v9.2.1, v9.2.2.1))) (fun v11 => (some (Ctl.go (v11.1, v11.2.1, (IntKind.wrap .i64 (v11.2.2.1 + (1 : Int))), v11.2.2.2))))) (bd (α := ((List Tya2e0c9 × Int) × Int × List Tya2e0c9 × Ty7661d1)) (cnd (decide (((v9.2.2.1.length : Nat) : Int) > (0 : Int))) (gd (decide ((v9.2.2.1.length + ([(true, (((0 : Int), (([] : List UInt8), (([] : List UInt8), ((0 : Int), (false, ((0 : Int), ((0 : Int), ((0 : Int), ((0 : Int), (((0 : Int), (0 : Int)), ((0 : Int), (0 : Int)))))))))))), (((0 : Int), (0 : Int)), (((0 : Int), (0 : Int)), ((0 : Int), ([] : List UInt8))))))] : List Tya2e0c9).length) * 176 ≤ 140737488355328)) (some (v9.1.2, v9.2.1, (v9.2.2.1 ++ ([(true, (((0 : Int), (([] : List UInt8), (([] : List UInt8), ((0 : Int), (false, ((0 : Int), ((0 : Int), ((0 : Int), ((0 : Int), (((0 : Int), (0 : Int)), ((0 : Int), (0 : Int)))))))))))), (((0 : Int), (0 : Int)), (((0 : Int), (0 : Int)), ((0 : Int), ([] : List UInt8))))))] : List Tya2e0c9)), v10.1, v10.2.1, (v10.2.2.1.1, v10.2.2.1.2.1), v10.2.2.1.2.2, v10.2.2.2.1, v10.2.2.2.2.1))) (some (v9.1.2, v9.2.1, v9.2.2.1, v10.1, v10.2.1, (v10.2.2.1.1, v10.2.2.1.2.1), v10.2.2.1.2.2, v10.2.2.2.1, v10.2.2.2.2.1))) (fun v12 => (gd (decide ((v12.2.2.1.length + ([(v12.2.2.2.1.1.1.1, ((v12.2.2.2.1.1.1.2, (v12.2.2.2.1.1.2.1, (v12.2.2.2.1.1.2.2.1, (v12.2.2.2.1.1.2.2.2, (v12.2.2.2.1.2.1.1, (v12.2.2.2.1.2.1.2, (v12.2.2.2.1.2.2.1, (v12.2.2.2.1.2.2.2.1, (v12.2.2.2.1.2.2.2.2, ((v12.2.2.2.2.1.1.1, v12.2.2.2.2.1.1.2), (v12.2.2.2.2.1.2.1, v12.2.2.2.2.1.2.2.1))))))))))), ((v12.2.2.2.2.1.2.2.2, v12.2.2.2.2.2.1.1), ((v12.2.2.2.2.2.1.2, v12.2.2.2.2.2.2.1), (v12.2.2.2.2.2.2.2.1, v12.2.2.2.2.2.2.2.2)))))] : List Tya2e0c9).length) * 176 ≤ 140737488355328)) (some (Ctl.go ((false, v12.1.1), v12.1.2, (IntKind.wrap .i64 (v12.2.1 + (1 : Int))), (v12.2.2.1 ++ ([(v12.2.2.2.1.1.1.1, ((v12.2.2.2.1.1.1.2, (v12.2.2.2.1.1.2.1, (v12.2.2.2.1.1.2.2.1, (v12.2.2.2.1.1.2.2.2, (v12.2.2.2.1.2.1.1, (v12.2.2.2.1.2.1.2, (v12.2.2.2.1.2.2.1, (v12.2.2.2.1.2.2.2.1, (v12.2.2.2.1.2.2.2.2, ((v12.2.2.2.2.1.1.1, v12.2.2.2.2.1.1.2), (v12.2.2.2.2.1.2.1, v12.2.2.2.2.1.2.2.1))))))))))), ((v12.2.2.2.2.1.2.2.2, v12.2.2.2.2.2.1.1), ((v12.2.2.2.2.2.1.2, v12.2.2.2.2.2.2.1), (v12.2.2.2.2.2.2.2.1, v12.2.2.2.2.2.2.2.2)))))] : List Tya2e0c9))))))))))))))))) (dnO (some v2.2.2.2)))) ((false, a0), ((a0.length : Nat) : Int), (0 : Int), ([] : List Tya2e0c9)))
def h22 : HC := (.s .d (.s .d (.s .d (.s (.s .d (.b (.l [o22_s2] (.s .d (.s .d (.s (.b (.s .d (.s .d (.j true [o22_s4] (.s (.s (.j false [o22_s0] .d) (.c (.s .d (.s .d (.s (.s (.j false [o22_s1] .d) .d) .d))) .d)) (.s .d (.s (.s .d (.c (.s (.j false [o22_s2] .d) .d) .d)) (.j false [o22_s3] .d)))))))) .d)))))) .d))))
theorem e22 (t : List Tya2e0c9) : evF (stpT Tryz.prog T64 K64) Tryz.f22 p22 r22 h22 t = (o22 t) := by kernel_rfl
theorem fo22 : FOk Tryz.prog 22 ⟨p22, r22, fun t => (o22 t)⟩ := FOk.run_eq (evF_ok (h := h22) (by kernel_rfl) (by kernel_rfl) (by kernel_rfl)) e22
def T65 : Tbl := (22, ⟨p22, r22, fun t => (o22 t)⟩) :: T64
theorem K65 : TOk Tryz.prog T65 := .cons K64 fo22
def Ss43f32a : SSh := .v (.agg [.s, .s, .ro (.p .b (.p (.p (.i .u8) (.p .s (.p .s (.p (.i .u8) (.p .b (.p (.i .i64) (.p (.i .i64) (.p (.i .i64) (.p (.i .i64) (.p (.p (.i .i64) (.i .i64)) (.p (.i .i64) (.i .i64)))))))))))) (.p (.p (.i .i64) (.i .i64)) (.p (.p (.i .i64) (.i .i64)) (.p (.i .u8) .s))))) true, .i .i64])
def Ss295c22 : SSh := .tup [.agg [.s, .s, .own 0, .i .i64], .c (.i .i64)]
def p6 : Sch := ⟨[(0, Ss6de90b), (1, Ss43f32a), (2, Ss07d524)], []⟩
def r6 : List Sch := [⟨[(0, Ss295c22)], [Bs214155]⟩]
def o6 (a0 : Tyc0a991) (a1 : Ty9d3b88) (a2 : Ty90edd6) : Option (((List UInt8 × List UInt8) × Int × Int) × List Tya2e0c9) :=
 (bd (α := Int) (o4 a1) (fun v1 => (cnd (v1 != (0 : Int)) (some (((([] : List UInt8), ([] : List UInt8)), (0 : Int), v1), ([] : List Tya2e0c9))) (bd (α := Int) (o20 a2) (fun v2 => (cnd (v2 != (0 : Int)) (some (((([] : List UInt8), ([] : List UInt8)), (0 : Int), v2), ([] : List Tya2e0c9))) (bd (α := (Int × Ty58ac1c × List Tya2e0c9)) (o21 ((((a0.1.1, a0.1.2.1), a0.1.2.2, a0.2.1, a0.2.2.1), (a0.2.2.2, a1.1), a1.2.1, a1.2.2, a2.1.1.1), (a2.1.1.2, a2.1.2), a2.2)) (fun v3 => (cnd (v3.1 != (0 : Int)) (some (((([] : List UInt8), ([] : List UInt8)), (0 : Int), v3.1), ([] : List Tya2e0c9))) (bd (α := (List Tya2e0c9)) (o22 v3.2.2) (fun v5 => (bd (α := Int) (o4 (v3.2.1.1.2.1.2, v5, v3.2.1.1.2.2.2.1)) (fun v6 => (cnd (v6 != (0 : Int)) (some (((([] : List UInt8), ([] : List UInt8)), (0 : Int), v6), ([] : List Tya2e0c9))) (some ((v3.2.1.1.2.1.2, v3.2.1.1.2.2.2.1, (0 : Int)), v5))))))))))))))))
def h6 : HC := (.s .d (.s .d (.s .d (.s .d (.s .d (.s (.r 2) .d))))))
theorem e6 (t : Tyc0a991 × Ty9d3b88 × Ty90edd6) : evF (stpT Tryz.prog T65 K65) Tryz.f6 p6 r6 h6 t = (o6 t.1 t.2.1 t.2.2) := by kernel_rfl
theorem fo6 : FOk Tryz.prog 6 ⟨p6, r6, fun t => (o6 t.1 t.2.1 t.2.2)⟩ := FOk.run_eq (evF_ok (h := h6) (by kernel_rfl) (by kernel_rfl) (by kernel_rfl)) e6
def T66 : Tbl := (6, ⟨p6, r6, fun t => (o6 t.1 t.2.1 t.2.2)⟩) :: T65
theorem K66 : TOk Tryz.prog T66 := .cons K65 fo6
def Sse7c652 : SSh := .v (.c (.ro (.p (.p .s (.p .s (.p (.a (.p .b (.p (.p (.i .u8) (.p .s (.p .s (.p (.i .u8) (.p .b (.p (.i .i64) (.p (.i .i64) (.p (.i .i64) (.p (.i .i64) (.p (.p (.i .i64) (.i .i64)) (.p (.i .i64) (.i .i64)))))))))))) (.p (.p (.i .i64) (.i .i64)) (.p (.p (.i .i64) (.i .i64)) (.p (.i .u8) .s)))))) (.i .i64)))) .b) false))
def Bs2d204f : BSh := .row (.p (.p .s (.p .s (.p (.a (.p .b (.p (.p (.i .u8) (.p .s (.p .s (.p (.i .u8) (.p .b (.p (.i .i64) (.p (.i .i64) (.p (.i .i64) (.p (.i .i64) (.p (.p (.i .i64) (.i .i64)) (.p (.i .i64) (.i .i64)))))))))))) (.p (.p (.i .i64) (.i .i64)) (.p (.p (.i .i64) (.i .i64)) (.p (.i .u8) .s)))))) (.i .i64)))) .b) 69
abbrev Tyb7b0f3 : Type := (List UInt8 × List UInt8 × List Tya2e0c9 × Int) × Bool
def p49 : Sch := ⟨[(0, Sse7c652)], []⟩
def r49 : List Sch := [⟨[(0, .v (.c (.own 0)))], [Bs2d204f]⟩]
def o49 (a0 : List Tyb7b0f3) : Option (List Tyb7b0f3) :=
 (nlO (List.isEmpty a0) (some ([] : List Tyb7b0f3)) (gd (decide ((([] : List Tyb7b0f3).length + a0.length) * 72 ≤ 140737488355328)) (some (([] : List Tyb7b0f3) ++ a0))))
theorem e49 (t : List Tyb7b0f3) : evF (stpT Tryz.prog T66 K66) Tryz.f49 p49 r49 .d t = (o49 t) := by kernel_rfl
theorem fo49 : FOk Tryz.prog 49 ⟨p49, r49, fun t => (o49 t)⟩ := FOk.run_eq (evF_ok (h := .d) (by kernel_rfl) (by kernel_rfl) (by kernel_rfl)) e49
def T67 : Tbl := (49, ⟨p49, r49, fun t => (o49 t)⟩) :: T66
theorem K67 : TOk Tryz.prog T67 := .cons K66 fo49
def Bs851ff9 : BSh := .cells 72 [.s, .s, .ro (.p .b (.p (.p (.i .u8) (.p .s (.p .s (.p (.i .u8) (.p .b (.p (.i .i64) (.p (.i .i64) (.p (.i .i64) (.p (.i .i64) (.p (.p (.i .i64) (.i .i64)) (.p (.i .i64) (.i .i64)))))))))))) (.p (.p (.i .i64) (.i .i64)) (.p (.p (.i .i64) (.i .i64)) (.p (.i .u8) .s))))) true, .i .i64, .s, .s, .cst (.slice none 0 0), .i .i64, .b, .own 2, .cst (.slice none 0 0)]
def Bs0386bb : BSh := .cells 72 [.s, .s, .ro (.p .b (.p (.p (.i .u8) (.p .s (.p .s (.p (.i .u8) (.p .b (.p (.i .i64) (.p (.i .i64) (.p (.i .i64) (.p (.i .i64) (.p (.p (.i .i64) (.i .i64)) (.p (.i .i64) (.i .i64)))))))))))) (.p (.p (.i .i64) (.i .i64)) (.p (.p (.i .i64) (.i .i64)) (.p (.i .u8) .s))))) true, .i .i64, .s, .s, .cst (.slice none 0 0), .i .i64, .b, .cst (.slice none 0 0), .cst (.slice none 0 0)]
def Bs30be84 : BSh := .cells 72 [.s, .s, .ro (.p .b (.p (.p (.i .u8) (.p .s (.p .s (.p (.i .u8) (.p .b (.p (.i .i64) (.p (.i .i64) (.p (.i .i64) (.p (.i .i64) (.p (.p (.i .i64) (.i .i64)) (.p (.i .i64) (.i .i64)))))))))))) (.p (.p (.i .i64) (.i .i64)) (.p (.p (.i .i64) (.i .i64)) (.p (.i .u8) .s))))) true, .i .i64, .s, .s, .own 1, .i .i64, .bc true, .own 2, .cst (.slice none 0 0)]
abbrev Tyc69626 : Type := ((List UInt8 × List UInt8) × List Tya2e0c9 × Int) × (List UInt8 × List UInt8) × Int × Bool
abbrev Ty00afe6 : Type := (List UInt8 × List UInt8 × List Tya2e0c9) × (Int × List UInt8) × List UInt8 × Int
def o23_s0 : Sch := ⟨[(0, .v (.c (.ptr 0 0))), (3, .v (.c (.ptr 1 0)))], [Bs851ff9, Bs82369c, Bs2d204f]⟩
def p23 : Sch := ⟨[(0, .v (.c (.ptr 0 0))), (1, Ss934196)], [Bs0386bb]⟩
def r23 : List Sch := [⟨[(0, .tup [])], [Bs30be84, Bs214155, Bs2d204f]⟩]
def o23 (a0 : Ty9d3b88) (a1 : Tyc69626) : Option (Ty00afe6 × List Tya2e0c9 × List Tyb7b0f3) :=
 (gd (decide (([((a1.2.1.1, (a1.2.1.2, (([] : List Tya2e0c9), a1.2.2.1))), a1.2.2.2)] : List Tyb7b0f3).length * 72 ≤ 140737488355328)) (bd (α := (Tyc69626 × Ty9d3b88 × List Tyb7b0f3)) (cnd (decide (((([((a1.2.1.1, (a1.2.1.2, (([] : List Tya2e0c9), a1.2.2.1))), a1.2.2.2)] : List Tyb7b0f3).length : Nat) : Int) > (16 : Int))) (gd (decide ((0 : Int) ≤ (1 : Int) ∧ (1 : Int) ≤ ((([((a1.2.1.1, (a1.2.1.2, (([] : List Tya2e0c9), a1.2.2.1))), a1.2.2.2)] : List Tyb7b0f3).length : Nat) : Int))) (bd (α := (List Tyb7b0f3)) (o49 (List.take (([((a1.2.1.1, (a1.2.1.2, (([] : List Tya2e0c9), a1.2.2.1))), a1.2.2.2)] : List Tyb7b0f3).length - (1 : Int).toNat) (List.drop ((1 : Int).toNat) ([((a1.2.1.1, (a1.2.1.2, (([] : List Tya2e0c9), a1.2.2.1))), a1.2.2.2)] : List Tyb7b0f3)))) (fun v1 => (some (a1, a0, v1))))) (some (a1, a0, ([((a1.2.1.1, (a1.2.1.2, (([] : List Tya2e0c9), a1.2.2.1))), a1.2.2.2)] : List Tyb7b0f3)))) (fun v2 => (bd (α := ((List UInt8 × List UInt8 × Int) × List Tya2e0c9)) (o19 v2.2.1) (fun v3 => (some (((v2.1.1.1.1, v2.1.1.1.2, v2.1.1.2.1), (v2.1.1.2.2, v3.1.1), v3.1.2), v3.2, v2.2.2)))))))
def h23 : HC := (.s .d (.s (.r 2) (.j false [o23_s0] .d)))
theorem e23 (t : Ty9d3b88 × Tyc69626) : evF (stpT Tryz.prog T67 K67) Tryz.f23 p23 r23 h23 t = (o23 t.1 t.2) := by kernel_rfl
theorem fo23 : FOk Tryz.prog 23 ⟨p23, r23, fun t => (o23 t.1 t.2)⟩ := FOk.run_eq (evF_ok (h := h23) (by kernel_rfl) (by kernel_rfl) (by kernel_rfl)) e23
def T68 : Tbl := (23, ⟨p23, r23, fun t => (o23 t.1 t.2)⟩) :: T67
theorem K68 : TOk Tryz.prog T68 := .cons K67 fo23
def Bsc2de19 : BSh := .cells 24 [.s, .s, .ro (.p .b (.p (.p (.i .u8) (.p .s (.p .s (.p (.i .u8) (.p .b (.p (.i .i64) (.p (.i .i64) (.p (.i .i64) (.p (.i .i64) (.p (.p (.i .i64) (.i .i64)) (.p (.i .i64) (.i .i64)))))))))))) (.p (.p (.i .i64) (.i .i64)) (.p (.p (.i .i64) (.i .i64)) (.p (.i .u8) .s))))) true, .i .i64]
def Bs9edd58 : BSh := .cells 72 [.s, .s, .own 1, .i .i64, .s, .s, .cst (.slice none 0 0), .i .i64, .b, .cst (.slice none 0 0), .cst (.slice none 0 0)]
def Bs541985 : BSh := .cells 72 [.s, .s, .ro (.p .b (.p (.p (.i .u8) (.p .s (.p .s (.p (.i .u8) (.p .b (.p (.i .i64) (.p (.i .i64) (.p (.i .i64) (.p (.i .i64) (.p (.p (.i .i64) (.i .i64)) (.p (.i .i64) (.i .i64)))))))))))) (.p (.p (.i .i64) (.i .i64)) (.p (.p (.i .i64) (.i .i64)) (.p (.i .u8) .s))))) true, .i .i64, .s, .s, .own 2, .i .i64, .b, .own 3, .cst (.slice none 0 0)]
abbrev Tyfebca7 : Type := (List UInt8 × List UInt8 × Int) × (List UInt8 × List UInt8) × Int × Bool
def o7_s0 : Sch := ⟨[(0, .v (.c (.ptr 0 0))), (4, .v (.c (.ptr 2 0))), (5, .v (.c (.ptr 3 0))), (7, .v (.c (.ptr 4 0)))], [Bs0386bb, .no, Bs27229b, Bs07d959, Bsc2de19]⟩
def p7 : Sch := ⟨[(0, .v (.c (.ptr 0 0))), (1, Ss6de90b), (2, Ss07d524)], [Bs9edd58, Bs214155]⟩
def r7 : List Sch := [⟨[(0, .v (.c (.i .i64)))], [Bs541985, .no, Bs214155, Bs2d204f]⟩]
def o7 (a0 : Tyc0a991) (a1 : Ty90edd6) (a2 : Tyfebca7) (a3 : List Tya2e0c9) : Option ((Int × Tyc69626) × List Tya2e0c9 × List Tyb7b0f3) :=
 (bd (α := ((Tyc69626 × Tyc0a991) × Ty90edd6 × Ty9d3b88)) (cnd a2.2.2.2 (some (((((a2.1.1, a2.1.2.1), a3, a2.1.2.2), a2.2), a0), a1, a2.2.1, ([] : List Tya2e0c9), a2.2.2.1)) (some (((((a2.1.1, a2.1.2.1), a3, a2.1.2.2), a2.2), a0), a1, (a2.1.1, a2.1.2.1), a3, a2.1.2.2))) (fun v1 => (bd (α := (((List UInt8 × List UInt8) × Int × Int) × List Tya2e0c9)) (o6 v1.1.2 v1.2.2 v1.2.1) (fun v2 => (cnd (v2.1.2.2 != (0 : Int)) (some ((v2.1.2.2, v1.1.1), ([] : List Tya2e0c9), ([] : List Tyb7b0f3))) (bd (α := (Ty00afe6 × List Tya2e0c9 × List Tyb7b0f3)) (o23 (v2.1.1, v2.2, v2.1.2.1) v1.1.1) (fun v3 => (some (((0 : Int), ((v3.1.1.1, v3.1.1.2.1), v3.1.1.2.2, v3.1.2.1.1), (v3.1.2.1.2, v3.1.2.2.1), v3.1.2.2.2, true), v3.2)))))))))
def h7 : HC := (.s .d (.s .d (.s .d (.j false [o7_s0] .d))))
theorem e7 (t : (Tyc0a991 × Ty90edd6) × Tyfebca7 × List Tya2e0c9) : evF (stpT Tryz.prog T68 K68) Tryz.f7 p7 r7 h7 t = (o7 t.1.1 t.1.2 t.2.1 t.2.2) := by kernel_rfl
theorem fo7 : FOk Tryz.prog 7 ⟨p7, r7, fun t => (o7 t.1.1 t.1.2 t.2.1 t.2.2)⟩ := FOk.run_eq (evF_ok (h := h7) (by kernel_rfl) (by kernel_rfl) (by kernel_rfl)) e7
def T69 : Tbl := (7, ⟨p7, r7, fun t => (o7 t.1.1 t.1.2 t.2.1 t.2.2)⟩) :: T68
theorem K69 : TOk Tryz.prog T69 := .cons K68 fo7
def Bs54a978 : BSh := .cells 72 [.s, .s, .ro (.p .b (.p (.p (.i .u8) (.p .s (.p .s (.p (.i .u8) (.p .b (.p (.i .i64) (.p (.i .i64) (.p (.i .i64) (.p (.i .i64) (.p (.p (.i .i64) (.i .i64)) (.p (.i .i64) (.i .i64)))))))))))) (.p (.p (.i .i64) (.i .i64)) (.p (.p (.i .i64) (.i .i64)) (.p (.i .u8) .s))))) true, .i .i64, .s, .s, .ro (.p .b (.p (.p (.i .u8) (.p .s (.p .s (.p (.i .u8) (.p .b (.p (.i .i64) (.p (.i .i64) (.p (.i .i64) (.p (.i .i64) (.p (.p (.i .i64) (.i .i64)) (.p (.i .i64) (.i .i64)))))))))))) (.p (.p (.i .i64) (.i .i64)) (.p (.p (.i .i64) (.i .i64)) (.p (.i .u8) .s))))) true, .i .i64, .b, .own 3, .cst (.slice none 0 0)]
def Bsfcefcc : BSh := .cells 72 [.s, .s, .ro (.p .b (.p (.p (.i .u8) (.p .s (.p .s (.p (.i .u8) (.p .b (.p (.i .i64) (.p (.i .i64) (.p (.i .i64) (.p (.i .i64) (.p (.p (.i .i64) (.i .i64)) (.p (.i .i64) (.i .i64)))))))))))) (.p (.p (.i .i64) (.i .i64)) (.p (.p (.i .i64) (.i .i64)) (.p (.i .u8) .s))))) true, .i .i64, .s, .s, .ro (.p .b (.p (.p (.i .u8) (.p .s (.p .s (.p (.i .u8) (.p .b (.p (.i .i64) (.p (.i .i64) (.p (.i .i64) (.p (.i .i64) (.p (.p (.i .i64) (.i .i64)) (.p (.i .i64) (.i .i64)))))))))))) (.p (.p (.i .i64) (.i .i64)) (.p (.p (.i .i64) (.i .i64)) (.p (.i .u8) .s))))) true, .i .i64, .b, .own 1, .cst (.slice none 0 0)]
def Bsefcc50 : BSh := .cells 72 [.s, .s, .ro (.p .b (.p (.p (.i .u8) (.p .s (.p .s (.p (.i .u8) (.p .b (.p (.i .i64) (.p (.i .i64) (.p (.i .i64) (.p (.i .i64) (.p (.p (.i .i64) (.i .i64)) (.p (.i .i64) (.i .i64)))))))))))) (.p (.p (.i .i64) (.i .i64)) (.p (.p (.i .i64) (.i .i64)) (.p (.i .u8) .s))))) true, .i .i64, .s, .s, .own 2, .i .i64, .bc true, .own 3, .cst (.slice none 0 0)]
abbrev Ty84dfad : Type := ((List UInt8 × List UInt8) × List Tya2e0c9 × Int) × (List UInt8 × List UInt8) × List Tya2e0c9 × Int × Bool
def o23v1_s0 : Sch := ⟨[(0, .v (.c (.ptr 0 0))), (3, .v (.c (.ptr 2 0)))], [Bs54a978, .no, Bs82369c, Bs2d204f]⟩
def p23v1 : Sch := ⟨[(0, .v (.c (.ptr 0 0))), (1, Ss934196)], [Bsfcefcc, Bs2d204f]⟩
def r23v1 : List Sch := [⟨[(0, .tup [])], [Bsefcc50, .no, Bs214155, Bs2d204f]⟩]
def o23v1 (a0 : Ty9d3b88) (a1 : Ty84dfad) (a2 : List Tyb7b0f3) : Option (Ty00afe6 × List Tya2e0c9 × List Tyb7b0f3) :=
 (gd (decide ((a2.length + ([((a1.2.1.1, (a1.2.1.2, (a1.2.2.1, a1.2.2.2.1))), a1.2.2.2.2)] : List Tyb7b0f3).length) * 72 ≤ 140737488355328)) (bd (α := (Ty84dfad × Ty9d3b88 × List Tyb7b0f3)) (cnd (decide ((((a2 ++ ([((a1.2.1.1, (a1.2.1.2, (a1.2.2.1, a1.2.2.2.1))), a1.2.2.2.2)] : List Tyb7b0f3)).length : Nat) : Int) > (16 : Int))) (gd (decide ((0 : Int) ≤ (1 : Int) ∧ (1 : Int) ≤ (((a2 ++ ([((a1.2.1.1, (a1.2.1.2, (a1.2.2.1, a1.2.2.2.1))), a1.2.2.2.2)] : List Tyb7b0f3)).length : Nat) : Int))) (bd (α := (List Tyb7b0f3)) (o49 (List.take ((a2 ++ ([((a1.2.1.1, (a1.2.1.2, (a1.2.2.1, a1.2.2.2.1))), a1.2.2.2.2)] : List Tyb7b0f3)).length - (1 : Int).toNat) (List.drop ((1 : Int).toNat) (a2 ++ ([((a1.2.1.1, (a1.2.1.2, (a1.2.2.1, a1.2.2.2.1))), a1.2.2.2.2)] : List Tyb7b0f3))))) (fun v1 => (some (a1, a0, v1))))) (some (a1, a0, (a2 ++ ([((a1.2.1.1, (a1.2.1.2, (a1.2.2.1, a1.2.2.2.1))), a1.2.2.2.2)] : List Tyb7b0f3))))) (fun v2 => (bd (α := ((List UInt8 × List UInt8 × Int) × List Tya2e0c9)) (o19 v2.2.1) (fun v3 => (some (((v2.1.1.1.1, v2.1.1.1.2, v2.1.1.2.1), (v2.1.1.2.2, v3.1.1), v3.1.2), v3.2, v2.2.2)))))))
def h23v1 : HC := (.s .d (.s (.r 2) (.j false [o23v1_s0] .d)))
theorem e23v1 (t : Ty9d3b88 × Ty84dfad × List Tyb7b0f3) : evF (stpT Tryz.prog T69 K69) Tryz.f23 p23v1 r23v1 h23v1 t = (o23v1 t.1 t.2.1 t.2.2) := by kernel_rfl
theorem fo23v1 : FOk Tryz.prog 23 ⟨p23v1, r23v1, fun t => (o23v1 t.1 t.2.1 t.2.2)⟩ := FOk.run_eq (evF_ok (h := h23v1) (by kernel_rfl) (by kernel_rfl) (by kernel_rfl)) e23v1
def T70 : Tbl := (23, ⟨p23v1, r23v1, fun t => (o23v1 t.1 t.2.1 t.2.2)⟩) :: T69
theorem K70 : TOk Tryz.prog T70 := .cons K69 fo23v1
def Bs451a4c : BSh := .cells 72 [.s, .s, .ro (.p .b (.p (.p (.i .u8) (.p .s (.p .s (.p (.i .u8) (.p .b (.p (.i .i64) (.p (.i .i64) (.p (.i .i64) (.p (.i .i64) (.p (.p (.i .i64) (.i .i64)) (.p (.i .i64) (.i .i64)))))))))))) (.p (.p (.i .i64) (.i .i64)) (.p (.p (.i .i64) (.i .i64)) (.p (.i .u8) .s))))) true, .i .i64, .s, .s, .ro (.p .b (.p (.p (.i .u8) (.p .s (.p .s (.p (.i .u8) (.p .b (.p (.i .i64) (.p (.i .i64) (.p (.i .i64) (.p (.i .i64) (.p (.p (.i .i64) (.i .i64)) (.p (.i .i64) (.i .i64)))))))))))) (.p (.p (.i .i64) (.i .i64)) (.p (.p (.i .i64) (.i .i64)) (.p (.i .u8) .s))))) true, .i .i64, .b, .own 2, .cst (.slice none 0 0)]
def Bsdef9df : BSh := .cells 72 [.s, .s, .ro (.p .b (.p (.p (.i .u8) (.p .s (.p .s (.p (.i .u8) (.p .b (.p (.i .i64) (.p (.i .i64) (.p (.i .i64) (.p (.i .i64) (.p (.p (.i .i64) (.i .i64)) (.p (.i .i64) (.i .i64)))))))))))) (.p (.p (.i .i64) (.i .i64)) (.p (.p (.i .i64) (.i .i64)) (.p (.i .u8) .s))))) true, .i .i64, .s, .s, .own 1, .i .i64, .b, .own 2, .cst (.slice none 0 0)]
abbrev Ty609a94 : Type := (Tyc0a991 × Ty90edd6) × Tyc69626 × List Tya2e0c9 × List Tyb7b0f3
def o7v1_s0 : Sch := ⟨[(0, .v (.c (.ptr 0 0))), (4, .v (.c (.ptr 3 0))), (5, .v (.c (.ptr 4 0))), (7, .v (.c (.ptr 5 0)))], [Bs451a4c, .no, Bs2d204f, Bs27229b, Bs07d959, Bsc2de19]⟩
def p7v1 : Sch := ⟨[(0, .v (.c (.ptr 0 0))), (1, Ss6de90b), (2, Ss07d524)], [Bsdef9df, Bs214155, Bs2d204f]⟩
def r7v1 : List Sch := [⟨[(0, .v (.c (.i .i64)))], [Bs54a978, .no, .no, Bs2d204f]⟩]
def o7v1 (a0 : Tyc0a991) (a1 : Ty90edd6) (a2 : Tyc69626) (a3 : List Tya2e0c9) (a4 : List Tyb7b0f3) : Option (Int × Ty84dfad × List Tyb7b0f3) :=
 (bd (α := ((Ty84dfad × List Tyb7b0f3) × Tyc0a991 × Ty90edd6 × Ty9d3b88)) (cnd a2.2.2.2 (some (((a2.1, a2.2.1, a3, a2.2.2), a4), a0, a1, a2.2.1, a3, a2.2.2.1)) (some (((a2.1, a2.2.1, a3, a2.2.2), a4), a0, a1, a2.1))) (fun v1 => (bd (α := (((List UInt8 × List UInt8) × Int × Int) × List Tya2e0c9)) (o6 v1.2.1 v1.2.2.2 v1.2.2.1) (fun v2 => (cnd (v2.1.2.2 != (0 : Int)) (some (v2.1.2.2, v1.1)) (bd (α := (Ty00afe6 × List Tya2e0c9 × List Tyb7b0f3)) (o23v1 (v2.1.1, v2.2, v2.1.2.1) v1.1.1 v1.1.2) (fun v3 => (some ((0 : Int), (((v3.1.1.1, v3.1.1.2.1), v3.1.1.2.2, v3.1.2.1.1), (v3.1.2.1.2, v3.1.2.2.1), v3.2.1, v3.1.2.2.2, true), v3.2.2)))))))))
def h7v1 : HC := (.s .d (.s .d (.s .d (.j false [o7v1_s0] .d))))
theorem e7v1 (t : Ty609a94) : evF (stpT Tryz.prog T70 K70) Tryz.f7 p7v1 r7v1 h7v1 t = (o7v1 t.1.1 t.1.2 t.2.1 t.2.2.1 t.2.2.2) := by kernel_rfl
theorem fo7v1 : FOk Tryz.prog 7 ⟨p7v1, r7v1, fun t => (o7v1 t.1.1 t.1.2 t.2.1 t.2.2.1 t.2.2.2)⟩ := FOk.run_eq (evF_ok (h := h7v1) (by kernel_rfl) (by kernel_rfl) (by kernel_rfl)) e7v1
def T71 : Tbl := (7, ⟨p7v1, r7v1, fun t => (o7v1 t.1.1 t.1.2 t.2.1 t.2.2.1 t.2.2.2)⟩) :: T70
theorem K71 : TOk Tryz.prog T71 := .cons K70 fo7v1
def o7v2_s0 : Sch := ⟨[(0, .v (.c (.ptr 0 0))), (4, .v (.c (.ptr 2 0))), (5, .v (.c (.ptr 3 0))), (7, .v (.c (.ptr 4 0)))], [Bsfcefcc, Bs2d204f, Bs27229b, Bs07d959, Bsc2de19]⟩
def p7v2 : Sch := ⟨[(0, .v (.c (.ptr 0 0))), (1, Ss6de90b), (2, Ss07d524)], [Bsfcefcc, Bs2d204f]⟩
def r7v2 : List Sch := [⟨[(0, .v (.c (.i .i64)))], [Bs451a4c, .no, Bs2d204f]⟩]
def o7v2 (a0 : Tyc0a991) (a1 : Ty90edd6) (a2 : Ty84dfad) (a3 : List Tyb7b0f3) : Option (Int × Ty84dfad × List Tyb7b0f3) :=
 (bd (α := ((Ty84dfad × List Tyb7b0f3) × Tyc0a991 × Ty90edd6 × Ty9d3b88)) (cnd a2.2.2.2.2 (some ((a2, a3), a0, a1, a2.2.1, a2.2.2.1, a2.2.2.2.1)) (some ((a2, a3), a0, a1, a2.1))) (fun v1 => (bd (α := (((List UInt8 × List UInt8) × Int × Int) × List Tya2e0c9)) (o6 v1.2.1 v1.2.2.2 v1.2.2.1) (fun v2 => (cnd (v2.1.2.2 != (0 : Int)) (some (v2.1.2.2, v1.1)) (bd (α := (Ty00afe6 × List Tya2e0c9 × List Tyb7b0f3)) (o23v1 (v2.1.1, v2.2, v2.1.2.1) v1.1.1 v1.1.2) (fun v3 => (some ((0 : Int), (((v3.1.1.1, v3.1.1.2.1), v3.1.1.2.2, v3.1.2.1.1), (v3.1.2.1.2, v3.1.2.2.1), v3.2.1, v3.1.2.2.2, true), v3.2.2)))))))))
def h7v2 : HC := (.s .d (.s .d (.s .d (.j false [o7v2_s0] .d))))
theorem e7v2 (t : (Tyc0a991 × Ty90edd6) × Ty84dfad × List Tyb7b0f3) : evF (stpT Tryz.prog T71 K71) Tryz.f7 p7v2 r7v2 h7v2 t = (o7v2 t.1.1 t.1.2 t.2.1 t.2.2) := by kernel_rfl
theorem fo7v2 : FOk Tryz.prog 7 ⟨p7v2, r7v2, fun t => (o7v2 t.1.1 t.1.2 t.2.1 t.2.2)⟩ := FOk.run_eq (evF_ok (h := h7v2) (by kernel_rfl) (by kernel_rfl) (by kernel_rfl)) e7v2
def T72 : Tbl := (7, ⟨p7v2, r7v2, fun t => (o7v2 t.1.1 t.1.2 t.2.1 t.2.2)⟩) :: T71
theorem K72 : TOk Tryz.prog T72 := .cons K71 fo7v2
def Bsae051e : BSh := .cells 72 [.s, .s, .ro (.p .b (.p (.p (.i .u8) (.p .s (.p .s (.p (.i .u8) (.p .b (.p (.i .i64) (.p (.i .i64) (.p (.i .i64) (.p (.i .i64) (.p (.p (.i .i64) (.i .i64)) (.p (.i .i64) (.i .i64)))))))))))) (.p (.p (.i .i64) (.i .i64)) (.p (.p (.i .i64) (.i .i64)) (.p (.i .u8) .s))))) true, .i .i64, .s, .s, .ro (.p .b (.p (.p (.i .u8) (.p .s (.p .s (.p (.i .u8) (.p .b (.p (.i .i64) (.p (.i .i64) (.p (.i .i64) (.p (.i .i64) (.p (.p (.i .i64) (.i .i64)) (.p (.i .i64) (.i .i64)))))))))))) (.p (.p (.i .i64) (.i .i64)) (.p (.p (.i .i64) (.i .i64)) (.p (.i .u8) .s))))) true, .i .i64, .b, .own 2, .own 3]
def Df7463c6 : Tyb7b0f3 := ((([] : List UInt8), (([] : List UInt8), (([] : List Tya2e0c9), (0 : Int)))), false)
def p24 : Sch := ⟨[(0, .v (.c (.ptr 0 0))), (1, .v (.c (.ptr 0 9))), (2, .v (.c (.ptr 0 10)))], [Bsfcefcc, Bs2d204f]⟩
def r24 : List Sch := [⟨[(0, .v (.c (.i .i64)))], [Bsae051e, .no, Bs2d204f, Bs2d204f]⟩]
def o24 (a0 : Ty84dfad) (a1 : List Tyb7b0f3) : Option ((Int × Ty84dfad) × List Tyb7b0f3 × List Tyb7b0f3) :=
 (cnd (((a1.length : Nat) : Int) == (0 : Int)) (some (((6 : Int), a0), a1, ([] : List Tyb7b0f3))) (gd (decide (([((a0.2.1.1, (a0.2.1.2, (a0.2.2.1, a0.2.2.2.1))), a0.2.2.2.2)] : List Tyb7b0f3).length * 72 ≤ 140737488355328)) (gd (decide ((0 : Int) ≤ (IntKind.wrap .i64 (((a1.length : Nat) : Int) - (1 : Int))) ∧ (IntKind.wrap .i64 (((a1.length : Nat) : Int) - (1 : Int))) < ((a1.length : Nat) : Int))) (bd (α := Tyb7b0f3) (some (List.getD a1 ((IntKind.wrap .i64 (((a1.length : Nat) : Int) - (1 : Int))).toNat) Df7463c6)) (fun v1 => (gd (decide ((0 : Int) ≤ (IntKind.wrap .i64 (((a1.length : Nat) : Int) - (1 : Int))) ∧ (IntKind.wrap .i64 (((a1.length : Nat) : Int) - (1 : Int))) ≤ ((a1.length : Nat) : Int))) (some (((0 : Int), a0.1, (v1.1.1, v1.1.2.1), v1.1.2.2.1, v1.1.2.2.2, v1.2), (List.take ((IntKind.wrap .i64 (((a1.length : Nat) : Int) - (1 : Int))).toNat) a1), ([((a0.2.1.1, (a0.2.1.2, (a0.2.2.1, a0.2.2.2.1))), a0.2.2.2.2)] : List Tyb7b0f3)))))))))
theorem e24 (t : Ty84dfad × List Tyb7b0f3) : evF (stpT Tryz.prog T72 K72) Tryz.f24 p24 r24 (.s .d (.s .d (.s .d (.s (.r 2) .d)))) t = (o24 t.1 t.2) := by kernel_rfl
theorem fo24 : FOk Tryz.prog 24 ⟨p24, r24, fun t => (o24 t.1 t.2)⟩ := FOk.run_eq (evF_ok (h := (.s .d (.s .d (.s .d (.s (.r 2) .d))))) (by kernel_rfl) (by kernel_rfl) (by kernel_rfl)) e24
def T73 : Tbl := (24, ⟨p24, r24, fun t => (o24 t.1 t.2)⟩) :: T72
theorem K73 : TOk Tryz.prog T73 := .cons K72 fo24
def p8 : Sch := ⟨[(0, .v (.c (.ptr 0 0)))], [Bsfcefcc, Bs2d204f]⟩
def r8 : List Sch := [⟨[(0, .v (.c (.i .i64)))], [Bsae051e, .no, Bs2d204f, Bs2d204f]⟩]
def o8 (a0 : Ty84dfad) (a1 : List Tyb7b0f3) : Option ((Int × Ty84dfad) × List Tyb7b0f3 × List Tyb7b0f3) :=
 (bd (α := ((Int × Ty84dfad) × List Tyb7b0f3 × List Tyb7b0f3)) (o24 a0 a1) (fun v2 => (some v2)))
theorem e8 (t : Ty84dfad × List Tyb7b0f3) : evF (stpT Tryz.prog T73 K73) Tryz.f8 p8 r8 (.s .d (.s .d (.s (.r 2) .d))) t = (o8 t.1 t.2) := by kernel_rfl
theorem fo8 : FOk Tryz.prog 8 ⟨p8, r8, fun t => (o8 t.1 t.2)⟩ := FOk.run_eq (evF_ok (h := (.s .d (.s .d (.s (.r 2) .d)))) (by kernel_rfl) (by kernel_rfl) (by kernel_rfl)) e8
def T74 : Tbl := (8, ⟨p8, r8, fun t => (o8 t.1 t.2)⟩) :: T73
theorem K74 : TOk Tryz.prog T74 := .cons K73 fo8
def Bs63ab6b : BSh := .cells 72 [.s, .s, .ro (.p .b (.p (.p (.i .u8) (.p .s (.p .s (.p (.i .u8) (.p .b (.p (.i .i64) (.p (.i .i64) (.p (.i .i64) (.p (.i .i64) (.p (.p (.i .i64) (.i .i64)) (.p (.i .i64) (.i .i64)))))))))))) (.p (.p (.i .i64) (.i .i64)) (.p (.p (.i .i64) (.i .i64)) (.p (.i .u8) .s))))) true, .i .i64, .s, .s, .ro (.p .b (.p (.p (.i .u8) (.p .s (.p .s (.p (.i .u8) (.p .b (.p (.i .i64) (.p (.i .i64) (.p (.i .i64) (.p (.i .i64) (.p (.p (.i .i64) (.i .i64)) (.p (.i .i64) (.i .i64)))))))))))) (.p (.p (.i .i64) (.i .i64)) (.p (.p (.i .i64) (.i .i64)) (.p (.i .u8) .s))))) true, .i .i64, .b, .own 1, .own 2]
def Bsc742e5 : BSh := .cells 72 [.s, .s, .ro (.p .b (.p (.p (.i .u8) (.p .s (.p .s (.p (.i .u8) (.p .b (.p (.i .i64) (.p (.i .i64) (.p (.i .i64) (.p (.i .i64) (.p (.p (.i .i64) (.i .i64)) (.p (.i .i64) (.i .i64)))))))))))) (.p (.p (.i .i64) (.i .i64)) (.p (.p (.i .i64) (.i .i64)) (.p (.i .u8) .s))))) true, .i .i64, .s, .s, .ro (.p .b (.p (.p (.i .u8) (.p .s (.p .s (.p (.i .u8) (.p .b (.p (.i .i64) (.p (.i .i64) (.p (.i .i64) (.p (.i .i64) (.p (.p (.i .i64) (.i .i64)) (.p (.i .i64) (.i .i64)))))))))))) (.p (.p (.i .i64) (.i .i64)) (.p (.p (.i .i64) (.i .i64)) (.p (.i .u8) .s))))) true, .i .i64, .b, .own 3, .own 4]
def p24v1 : Sch := ⟨[(0, .v (.c (.ptr 0 0))), (1, .v (.c (.ptr 0 9))), (2, .v (.c (.ptr 0 10)))], [Bs63ab6b, Bs2d204f, Bs2d204f]⟩
def r24v1 : List Sch := [⟨[(0, .v (.c (.i .i64)))], [Bsc742e5, .no, .no, Bs2d204f, Bs2d204f]⟩]
def o24v1 (a0 : Ty84dfad) (a1 : List Tyb7b0f3) (a2 : List Tyb7b0f3) : Option ((Int × Ty84dfad) × List Tyb7b0f3 × List Tyb7b0f3) :=
 (cnd (((a1.length : Nat) : Int) == (0 : Int)) (some (((6 : Int), a0), a1, a2)) (gd (decide ((a2.length + ([((a0.2.1.1, (a0.2.1.2, (a0.2.2.1, a0.2.2.2.1))), a0.2.2.2.2)] : List Tyb7b0f3).length) * 72 ≤ 140737488355328)) (gd (decide ((0 : Int) ≤ (IntKind.wrap .i64 (((a1.length : Nat) : Int) - (1 : Int))) ∧ (IntKind.wrap .i64 (((a1.length : Nat) : Int) - (1 : Int))) < ((a1.length : Nat) : Int))) (bd (α := Tyb7b0f3) (some (List.getD a1 ((IntKind.wrap .i64 (((a1.length : Nat) : Int) - (1 : Int))).toNat) Df7463c6)) (fun v1 => (gd (decide ((0 : Int) ≤ (IntKind.wrap .i64 (((a1.length : Nat) : Int) - (1 : Int))) ∧ (IntKind.wrap .i64 (((a1.length : Nat) : Int) - (1 : Int))) ≤ ((a1.length : Nat) : Int))) (some (((0 : Int), a0.1, (v1.1.1, v1.1.2.1), v1.1.2.2.1, v1.1.2.2.2, v1.2), (List.take ((IntKind.wrap .i64 (((a1.length : Nat) : Int) - (1 : Int))).toNat) a1), (a2 ++ ([((a0.2.1.1, (a0.2.1.2, (a0.2.2.1, a0.2.2.2.1))), a0.2.2.2.2)] : List Tyb7b0f3))))))))))
theorem e24v1 (t : Ty84dfad × List Tyb7b0f3 × List Tyb7b0f3) : evF (stpT Tryz.prog T74 K74) Tryz.f24 p24v1 r24v1 (.s .d (.s .d (.s .d (.s (.r 2) .d)))) t = (o24v1 t.1 t.2.1 t.2.2) := by kernel_rfl
theorem fo24v1 : FOk Tryz.prog 24 ⟨p24v1, r24v1, fun t => (o24v1 t.1 t.2.1 t.2.2)⟩ := FOk.run_eq (evF_ok (h := (.s .d (.s .d (.s .d (.s (.r 2) .d))))) (by kernel_rfl) (by kernel_rfl) (by kernel_rfl)) e24v1
def T75 : Tbl := (24, ⟨p24v1, r24v1, fun t => (o24v1 t.1 t.2.1 t.2.2)⟩) :: T74
theorem K75 : TOk Tryz.prog T75 := .cons K74 fo24v1
def p8v1 : Sch := ⟨[(0, .v (.c (.ptr 0 0)))], [Bs63ab6b, Bs2d204f, Bs2d204f]⟩
def r8v1 : List Sch := [⟨[(0, .v (.c (.i .i64)))], [Bsc742e5, .no, .no, Bs2d204f, Bs2d204f]⟩]
def o8v1 (a0 : Ty84dfad) (a1 : List Tyb7b0f3) (a2 : List Tyb7b0f3) : Option ((Int × Ty84dfad) × List Tyb7b0f3 × List Tyb7b0f3) :=
 (bd (α := ((Int × Ty84dfad) × List Tyb7b0f3 × List Tyb7b0f3)) (o24v1 a0 a1 a2) (fun v2 => (some v2)))
theorem e8v1 (t : Ty84dfad × List Tyb7b0f3 × List Tyb7b0f3) : evF (stpT Tryz.prog T75 K75) Tryz.f8 p8v1 r8v1 (.s .d (.s .d (.s (.r 2) .d))) t = (o8v1 t.1 t.2.1 t.2.2) := by kernel_rfl
theorem fo8v1 : FOk Tryz.prog 8 ⟨p8v1, r8v1, fun t => (o8v1 t.1 t.2.1 t.2.2)⟩ := FOk.run_eq (evF_ok (h := (.s .d (.s .d (.s (.r 2) .d)))) (by kernel_rfl) (by kernel_rfl) (by kernel_rfl)) e8v1
def T76 : Tbl := (8, ⟨p8v1, r8v1, fun t => (o8v1 t.1 t.2.1 t.2.2)⟩) :: T75
theorem K76 : TOk Tryz.prog T76 := .cons K75 fo8v1
def Bs19ac11 : BSh := .lent [.s, .s, .ro (.p .b (.p (.p (.i .u8) (.p .s (.p .s (.p (.i .u8) (.p .b (.p (.i .i64) (.p (.i .i64) (.p (.i .i64) (.p (.i .i64) (.p (.p (.i .i64) (.i .i64)) (.p (.i .i64) (.i .i64)))))))))))) (.p (.p (.i .i64) (.i .i64)) (.p (.p (.i .i64) (.i .i64)) (.p (.i .u8) .s))))) false, .i .i64, .s, .s, .ro (.p .b (.p (.p (.i .u8) (.p .s (.p .s (.p (.i .u8) (.p .b (.p (.i .i64) (.p (.i .i64) (.p (.i .i64) (.p (.i .i64) (.p (.p (.i .i64) (.i .i64)) (.p (.i .i64) (.i .i64)))))))))))) (.p (.p (.i .i64) (.i .i64)) (.p (.p (.i .i64) (.i .i64)) (.p (.i .u8) .s))))) false, .i .i64, .b, .ro (.p (.p .s (.p .s (.p (.a (.p .b (.p (.p (.i .u8) (.p .s (.p .s (.p (.i .u8) (.p .b (.p (.i .i64) (.p (.i .i64) (.p (.i .i64) (.p (.i .i64) (.p (.p (.i .i64) (.i .i64)) (.p (.i .i64) (.i .i64)))))))))))) (.p (.p (.i .i64) (.i .i64)) (.p (.p (.i .i64) (.i .i64)) (.p (.i .u8) .s)))))) (.i .i64)))) .b) false, .ro (.p (.p .s (.p .s (.p (.a (.p .b (.p (.p (.i .u8) (.p .s (.p .s (.p (.i .u8) (.p .b (.p (.i .i64) (.p (.i .i64) (.p (.i .i64) (.p (.i .i64) (.p (.p (.i .i64) (.i .i64)) (.p (.i .i64) (.i .i64)))))))))))) (.p (.p (.i .i64) (.i .i64)) (.p (.p (.i .i64) (.i .i64)) (.p (.i .u8) .s)))))) (.i .i64)))) .b) false]
def Ssec5f3e : SSh := .tup [.agg [.s, .s, .own 1, .i .i64], .c (.b)]
abbrev Ty24f116 : Type := ((List UInt8 × List UInt8) × List Tya2e0c9 × Int × List UInt8) × (List UInt8 × List Tya2e0c9 × Int) × Bool × List Tyb7b0f3 × List Tyb7b0f3
def p9 : Sch := ⟨[(0, .v (.c (.ptr 0 0)))], [Bs19ac11]⟩
def r9 : List Sch := [⟨[(0, Ssec5f3e)], [.no, Bs214155]⟩]
def o9 (a0 : Ty24f116) : Option (((List UInt8 × List UInt8) × Int × Bool) × List Tya2e0c9) :=
 (cnd (!a0.2.2.1) (some (((([] : List UInt8), ([] : List UInt8)), (0 : Int), false), ([] : List Tya2e0c9))) (bd (α := ((List UInt8 × List UInt8 × Int) × List Tya2e0c9)) (o19 ((a0.1.2.2.2, a0.2.1.1), a0.2.1.2)) (fun v1 => (some (((v1.1.1, v1.1.2.1), v1.1.2.2, true), v1.2)))))
theorem e9 (t : Ty24f116) : evF (stpT Tryz.prog T76 K76) Tryz.f9 p9 r9 .d t = (o9 t) := by kernel_rfl
theorem fo9 : FOk Tryz.prog 9 ⟨p9, r9, fun t => (o9 t)⟩ := FOk.run_eq (evF_ok (h := .d) (by kernel_rfl) (by kernel_rfl) (by kernel_rfl)) e9
def T77 : Tbl := (9, ⟨p9, r9, fun t => (o9 t)⟩) :: T76
theorem K77 : TOk Tryz.prog T77 := .cons K76 fo9
def o25_s0 : Sch := ⟨[(0, Sse569ae), (1, Sse569ae), (12, .v (.c (.i .i64))), (13, .v (.c (.i .i64)))], []⟩
def p25 : Sch := ⟨[(0, Sse569ae), (1, Sse569ae)], []⟩
def r25 : List Sch := [⟨[(0, .v (.c (.b)))], []⟩]
def o25 (a0 : List Tya2e0c9) (a1 : List Tya2e0c9) : Option Bool :=
 (cnd (((a0.length : Nat) : Int) != ((a1.length : Nat) : Int)) (some false) (loopO (σ := (List Tya2e0c9 × List Tya2e0c9) × Int × Int) fuelN (fun (v2 : (List Tya2e0c9 × List Tya2e0c9) × Int × Int) => (cnd (decide (v2.2.2 < v2.2.1)) (gd (decide ((0 : Int) ≤ v2.2.2 ∧ v2.2.2 < ((v2.1.1.length : Nat) : Int))) (bd (α := Tya2e0c9) (some (List.getD v2.1.1 v2.2.2.toNat Df4c50a0)) (fun v5 => (gd (decide ((0 : Int) ≤ v2.2.2 ∧ v2.2.2 < ((v2.1.2.length : Nat) : Int))) (bd (α := Tya2e0c9) (some (List.getD v2.1.2 v2.2.2.toNat Df4c50a0)) (fun v6 => (cnd (!((v5.1 == v6.1) && (((v5.2.1.1 == v6.2.1.1) && ((strEq v5.2.1.2.1 v6.2.1.2.1) && ((strEq v5.2.1.2.2.1 v6.2.1.2.2.1) && ((v5.2.1.2.2.2.1 == v6.2.1.2.2.2.1) && ((v5.2.1.2.2.2.2.1 == v6.2.1.2.2.2.2.1) && ((v5.2.1.2.2.2.2.2.1 == v6.2.1.2.2.2.2.2.1) && ((v5.2.1.2.2.2.2.2.2.1 == v6.2.1.2.2.2.2.2.2.1) && ((v5.2.1.2.2.2.2.2.2.2.1 == v6.2.1.2.2.2.2.2.2.2.1) && ((v5.2.1.2.2.2.2.2.2.2.2.1 == v6.2.1.2.2.2.2.2.2.2.2.1) && (((v5.2.1.2.2.2.2.2.2.2.2.2.1.1 == v6.2.1.2.2.2.2.2.2.2.2.2.1.1) && (v5.2.1.2.2.2.2.2.2.2.2.2.1.2 == v6.2.1.2.2.2.2.2.2.2.2.2.1.2)) && ((v5.2.1.2.2.2.2.2.2.2.2.2.2.1 == v6.2.1.2.2.2.2.2.2.2.2.2.2.1) && (v5.2.1.2.2.2.2.2.2.2.2.2.2.2 == v6.2.1.2.2.2.2.2.2.2.2.2.2.2)))))))))))) && (((v5.2.2.1.1 == v6.2.2.1.1) && (v5.2.2.1.2 == v6.2.2.1.2)) && (((v5.2.2.2.1.1 == v6.2.2.2.1.1) && (v5.2.2.2.1.2 == v6.2.2.2.1.2)) && ((v5.2.2.2.2.1 == v6.2.2.2.2.1) && (strEq v5.2.2.2.2.2 v6.2.2.2.2.2))))))) (dnO (some false)) (some (Ctl.go (v2.1, v2.2.1, (IntKind.wrap .i64 (v2.2.2 + (1 : Int))))))))))))) (dnO (some true)))) ((a0, a1), ((a0.length : Nat) : Int), (0 : Int))))
def h25 : HC := (.s .d (.s .d (.s (.s .d (.b (.l [o25_s0] .d))) .d)))
theorem e25 (t : List Tya2e0c9 × List Tya2e0c9) : evF (stpT Tryz.prog T77 K77) Tryz.f25 p25 r25 h25 t = (o25 t.1 t.2) := by kernel_rfl
theorem fo25 : FOk Tryz.prog 25 ⟨p25, r25, fun t => (o25 t.1 t.2)⟩ := FOk.run_eq (evF_ok (h := h25) (by kernel_rfl) (by kernel_rfl) (by kernel_rfl)) e25
def T78 : Tbl := (25, ⟨p25, r25, fun t => (o25 t.1 t.2)⟩) :: T77
theorem K78 : TOk Tryz.prog T78 := .cons K77 fo25
def o10_s0 : Sch := ⟨[(4, .v (.c (.b)))], []⟩
def p10 : Sch := ⟨[(0, Ss934196), (1, Ss934196)], []⟩
def r10 : List Sch := [⟨[(0, .v (.c (.b)))], []⟩]
def o10 (a0 : Ty9d3b88) (a1 : Ty9d3b88) : Option Bool :=
 (bd (α := Bool) (cnd (a0.1.1 == a1.1.1) (cnd (a0.1.2 == a1.1.2) (cnd (a0.2.2 == a1.2.2) (bd (α := Bool) (o25 a0.2.1 a1.2.1) (fun v1 => (some v1))) (some false)) (some false)) (some false)) (fun v2 => (some v2)))
theorem e10 (t : Ty9d3b88 × Ty9d3b88) : evF (stpT Tryz.prog T78 K78) Tryz.f10 p10 r10 (.s .d (.s (.j false [o10_s0] .d) .d)) t = (o10 t.1 t.2) := by kernel_rfl
theorem fo10 : FOk Tryz.prog 10 ⟨p10, r10, fun t => (o10 t.1 t.2)⟩ := FOk.run_eq (evF_ok (h := (.s .d (.s (.j false [o10_s0] .d) .d))) (by kernel_rfl) (by kernel_rfl) (by kernel_rfl)) e10
def T79 : Tbl := (10, ⟨p10, r10, fun t => (o10 t.1 t.2)⟩) :: T78
theorem K79 : TOk Tryz.prog T79 := .cons K78 fo10
def p24v2 : Sch := ⟨[(0, .v (.c (.ptr 0 0))), (1, .v (.c (.ptr 0 10))), (2, .v (.c (.ptr 0 9)))], [Bs63ab6b, Bs2d204f, Bs2d204f]⟩
def r24v2 : List Sch := [⟨[(0, .v (.c (.i .i64)))], [Bsc742e5, .no, .no, Bs2d204f, Bs2d204f]⟩]
def o24v2 (a0 : Ty84dfad) (a1 : List Tyb7b0f3) (a2 : List Tyb7b0f3) : Option ((Int × Ty84dfad) × List Tyb7b0f3 × List Tyb7b0f3) :=
 (cnd (((a2.length : Nat) : Int) == (0 : Int)) (some (((6 : Int), a0), a1, a2)) (gd (decide ((a1.length + ([((a0.2.1.1, (a0.2.1.2, (a0.2.2.1, a0.2.2.2.1))), a0.2.2.2.2)] : List Tyb7b0f3).length) * 72 ≤ 140737488355328)) (gd (decide ((0 : Int) ≤ (IntKind.wrap .i64 (((a2.length : Nat) : Int) - (1 : Int))) ∧ (IntKind.wrap .i64 (((a2.length : Nat) : Int) - (1 : Int))) < ((a2.length : Nat) : Int))) (bd (α := Tyb7b0f3) (some (List.getD a2 ((IntKind.wrap .i64 (((a2.length : Nat) : Int) - (1 : Int))).toNat) Df7463c6)) (fun v1 => (gd (decide ((0 : Int) ≤ (IntKind.wrap .i64 (((a2.length : Nat) : Int) - (1 : Int))) ∧ (IntKind.wrap .i64 (((a2.length : Nat) : Int) - (1 : Int))) ≤ ((a2.length : Nat) : Int))) (some (((0 : Int), a0.1, (v1.1.1, v1.1.2.1), v1.1.2.2.1, v1.1.2.2.2, v1.2), (a1 ++ ([((a0.2.1.1, (a0.2.1.2, (a0.2.2.1, a0.2.2.2.1))), a0.2.2.2.2)] : List Tyb7b0f3)), (List.take ((IntKind.wrap .i64 (((a2.length : Nat) : Int) - (1 : Int))).toNat) a2)))))))))
theorem e24v2 (t : Ty84dfad × List Tyb7b0f3 × List Tyb7b0f3) : evF (stpT Tryz.prog T79 K79) Tryz.f24 p24v2 r24v2 (.s .d (.s .d (.s .d (.s (.r 2) .d)))) t = (o24v2 t.1 t.2.1 t.2.2) := by kernel_rfl
theorem fo24v2 : FOk Tryz.prog 24 ⟨p24v2, r24v2, fun t => (o24v2 t.1 t.2.1 t.2.2)⟩ := FOk.run_eq (evF_ok (h := (.s .d (.s .d (.s .d (.s (.r 2) .d))))) (by kernel_rfl) (by kernel_rfl) (by kernel_rfl)) e24v2
def T80 : Tbl := (24, ⟨p24v2, r24v2, fun t => (o24v2 t.1 t.2.1 t.2.2)⟩) :: T79
theorem K80 : TOk Tryz.prog T80 := .cons K79 fo24v2
def p11 : Sch := ⟨[(0, .v (.c (.ptr 0 0)))], [Bs63ab6b, Bs2d204f, Bs2d204f]⟩
def r11 : List Sch := [⟨[(0, .v (.c (.i .i64)))], [Bsc742e5, .no, .no, Bs2d204f, Bs2d204f]⟩]
def o11 (a0 : Ty84dfad) (a1 : List Tyb7b0f3) (a2 : List Tyb7b0f3) : Option ((Int × Ty84dfad) × List Tyb7b0f3 × List Tyb7b0f3) :=
 (bd (α := ((Int × Ty84dfad) × List Tyb7b0f3 × List Tyb7b0f3)) (o24v2 a0 a1 a2) (fun v2 => (some v2)))
theorem e11 (t : Ty84dfad × List Tyb7b0f3 × List Tyb7b0f3) : evF (stpT Tryz.prog T80 K80) Tryz.f11 p11 r11 (.s .d (.s .d (.s (.r 2) .d))) t = (o11 t.1 t.2.1 t.2.2) := by kernel_rfl
theorem fo11 : FOk Tryz.prog 11 ⟨p11, r11, fun t => (o11 t.1 t.2.1 t.2.2)⟩ := FOk.run_eq (evF_ok (h := (.s .d (.s .d (.s (.r 2) .d)))) (by kernel_rfl) (by kernel_rfl) (by kernel_rfl)) e11
def T81 : Tbl := (11, ⟨p11, r11, fun t => (o11 t.1 t.2.1 t.2.2)⟩) :: T80
theorem K81 : TOk Tryz.prog T81 := .cons K80 fo11
def Ssf03fe9 : SSh := .v (.agg [.s, .s, .own 1, .i .i64])
def p12 : Sch := ⟨[(0, .v (.c (.ptr 0 0)))], [Bs19ac11]⟩
def r12 : List Sch := [⟨[(0, Ssf03fe9)], [.no, Bs214155]⟩]
def o12 (a0 : Ty24f116) : Option ((List UInt8 × List UInt8 × Int) × List Tya2e0c9) :=
 (bd (α := ((List UInt8 × List UInt8 × Int) × List Tya2e0c9)) (o19 (a0.1.1, a0.1.2.1, a0.1.2.2.1)) (fun v1 => (some v1)))
theorem e12 (t : Ty24f116) : evF (stpT Tryz.prog T81 K81) Tryz.f12 p12 r12 .d t = (o12 t) := by kernel_rfl
theorem fo12 : FOk Tryz.prog 12 ⟨p12, r12, fun t => (o12 t)⟩ := FOk.run_eq (evF_ok (h := .d) (by kernel_rfl) (by kernel_rfl) (by kernel_rfl)) e12
def T82 : Tbl := (12, ⟨p12, r12, fun t => (o12 t)⟩) :: T81
theorem K82 : TOk Tryz.prog T82 := .cons K81 fo12
def Bs874262 : BSh := .cells 72 [.s, .s, .ro (.p .b (.p (.p (.i .u8) (.p .s (.p .s (.p (.i .u8) (.p .b (.p (.i .i64) (.p (.i .i64) (.p (.i .i64) (.p (.i .i64) (.p (.p (.i .i64) (.i .i64)) (.p (.i .i64) (.i .i64)))))))))))) (.p (.p (.i .i64) (.i .i64)) (.p (.p (.i .i64) (.i .i64)) (.p (.i .u8) .s))))) true, .i .i64, .s, .s, .cst (.slice none 0 0), .ic .i64 (0), .bc false, .cst (.slice none 0 0), .cst (.slice none 0 0)]
abbrev Ty840c18 : Type := (List UInt8 × List UInt8 × List Tya2e0c9) × Int × List UInt8 × List UInt8
def p26 : Sch := ⟨[(0, .v (.c (.ptr 0 0)))], [Bs63ab6b, Bs2d204f, Bs2d204f]⟩
def r26 : List Sch := [⟨[(0, .tup [])], [Bs874262, Bs2d204f, Bs2d204f]⟩]
def o26 (a0 : Ty84dfad) (a1 : List Tyb7b0f3) (a2 : List Tyb7b0f3) : Option (Ty840c18 × List Tyb7b0f3 × List Tyb7b0f3) :=
 (some (((a0.1.1.1, a0.1.1.2, a0.1.2.1), a0.1.2.2, ([] : List UInt8), ([] : List UInt8)), a1, a2))
theorem e26 (t : Ty84dfad × List Tyb7b0f3 × List Tyb7b0f3) : evF (stpT Tryz.prog T82 K82) Tryz.f26 p26 r26 .d t = (o26 t.1 t.2.1 t.2.2) := by kernel_rfl
theorem fo26 : FOk Tryz.prog 26 ⟨p26, r26, fun t => (o26 t.1 t.2.1 t.2.2)⟩ := FOk.run_eq (evF_ok (h := .d) (by kernel_rfl) (by kernel_rfl) (by kernel_rfl)) e26
def T83 : Tbl := (26, ⟨p26, r26, fun t => (o26 t.1 t.2.1 t.2.2)⟩) :: T82
theorem K83 : TOk Tryz.prog T83 := .cons K82 fo26
def p13 : Sch := ⟨[(0, .v (.c (.ptr 0 0)))], [Bs63ab6b, Bs2d204f, Bs2d204f]⟩
def r13 : List Sch := [⟨[(0, .v (.c (.i .i64)))], [Bsc742e5, .no, .no, Bs2d204f, Bs2d204f]⟩]
def o13 (a0 : Ty84dfad) (a1 : List Tyb7b0f3) (a2 : List Tyb7b0f3) : Option ((Int × Ty84dfad) × List Tyb7b0f3 × List Tyb7b0f3) :=
 (cnd (!a0.2.2.2.2) (some (((8 : Int), a0), a1, a2)) (bd (α := (Ty840c18 × List Tyb7b0f3 × List Tyb7b0f3)) (o26 a0 a1 a2) (fun v1 => (some (((0 : Int), ((v1.1.1.1, v1.1.1.2.1), v1.1.1.2.2, v1.1.2.1), v1.1.2.2, ([] : List Tya2e0c9), (0 : Int), false), ([] : List Tyb7b0f3), ([] : List Tyb7b0f3))))))
theorem e13 (t : Ty84dfad × List Tyb7b0f3 × List Tyb7b0f3) : evF (stpT Tryz.prog T83 K83) Tryz.f13 p13 r13 .d t = (o13 t.1 t.2.1 t.2.2) := by kernel_rfl
theorem fo13 : FOk Tryz.prog 13 ⟨p13, r13, fun t => (o13 t.1 t.2.1 t.2.2)⟩ := FOk.run_eq (evF_ok (h := .d) (by kernel_rfl) (by kernel_rfl) (by kernel_rfl)) e13
def T84 : Tbl := (13, ⟨p13, r13, fun t => (o13 t.1 t.2.1 t.2.2)⟩) :: T83
theorem K84 : TOk Tryz.prog T84 := .cons K83 fo13
def Ss305fe5 : SSh := .v (.c (.ro (.p (.i .u8) (.p (.i .i64) (.p .s (.p .s (.p .s (.p .s (.p (.p (.i .i64) (.i .i64)) (.p (.i .i64) (.p (.i .i64) (.p (.i .i64) (.i .u8))))))))))) false))
def Bs6046d6 : BSh := .cells 72 [.s, .s, .own 2, .i .i64, .s, .s, .cst (.slice none 0 0), .ic .i64 (0), .bc false, .cst (.slice none 0 0), .cst (.slice none 0 0)]
def Bs881416 : BSh := .row (.p .s (.p .s (.p (.a (.p .b (.p (.p (.i .u8) (.p .s (.p .s (.p (.i .u8) (.p .b (.p (.i .i64) (.p (.i .i64) (.p (.i .i64) (.p (.i .i64) (.p (.p (.i .i64) (.i .i64)) (.p (.i .i64) (.i .i64)))))))))))) (.p (.p (.i .i64) (.i .i64)) (.p (.p (.i .i64) (.i .i64)) (.p (.i .u8) .s)))))) (.i .i64)))) 24
def Bs5ed045 : BSh := .cells 72 [.s, .s, .ro (.p .b (.p (.p (.i .u8) (.p .s (.p .s (.p (.i .u8) (.p .b (.p (.i .i64) (.p (.i .i64) (.p (.i .i64) (.p (.i .i64) (.p (.p (.i .i64) (.i .i64)) (.p (.i .i64) (.i .i64)))))))))))) (.p (.p (.i .i64) (.i .i64)) (.p (.p (.i .i64) (.i .i64)) (.p (.i .u8) .s))))) true, .i .i64, .s, .s, .ro (.p .b (.p (.p (.i .u8) (.p .s (.p .s (.p (.i .u8) (.p .b (.p (.i .i64) (.p (.i .i64) (.p (.i .i64) (.p (.i .i64) (.p (.p (.i .i64) (.i .i64)) (.p (.i .i64) (.i .i64)))))))))))) (.p (.p (.i .i64) (.i .i64)) (.p (.p (.i .i64) (.i .i64)) (.p (.i .u8) .s))))) true, .i .i64, .b, .own 4, .own 5]
def Bsdabc02 : BSh := .cells 24 [.s, .s, .own 6, .i .i64]
abbrev Tyd205ef : Type := Int × Int × List UInt8 × List UInt8 × List UInt8 × List UInt8 × (Int × Int) × Int × Int × Int × Int
abbrev Tyf1ba29 : Type := List UInt8 × List UInt8 × List Tya2e0c9 × Int
abbrev Tyd31f6f : Type := ((Int × List Tyd205ef) × Int × Int) × (Ty9d3b88 × Ty84dfad) × List Tyf1ba29 × List Tyb7b0f3
def Dfbc384a : Tyd205ef := ((0 : Int), ((0 : Int), (([] : List UInt8), (([] : List UInt8), (([] : List UInt8), (([] : List UInt8), (((0 : Int), (0 : Int)), ((0 : Int), ((0 : Int), ((0 : Int), (0 : Int)))))))))))
def Dfaac591 : Tyf1ba29 := (([] : List UInt8), (([] : List UInt8), (([] : List Tya2e0c9), (0 : Int))))
abbrev Ty5867c3 : Type := ((Int × Int) × Int × Int) × (Ty9d3b88 × Ty84dfad) × List Tyf1ba29 × List Tyb7b0f3 × List Tyb7b0f3
abbrev Ty62c88c : Type := ((Int × Int) × Bool × Ty9d3b88 × Ty84dfad) × (List Tyf1ba29 × List UInt8 × List UInt8 × Int) × List Tyb7b0f3 × List Tyb7b0f3 × List Tya2e0c9
abbrev Ty60ea91 : Type := ((Int × Int) × Int × Ty9d3b88 × Ty84dfad) × (List Tyf1ba29 × List UInt8 × List UInt8 × Int) × List Tyb7b0f3 × List Tyb7b0f3 × List Tya2e0c9
abbrev Tyeec796 : Type := (Bool × Bool × Ty9d3b88) × Ty84dfad × List Tyb7b0f3 × List Tyb7b0f3
def o3_s0 : Sch := ⟨[(1, Ss305fe5), (2, .v (.c (.i .u8))), (3, .v (.c (.ptr 0 0))), (28, .v (.c (.b)))], [Bsc2de19]⟩
def o3_s1 : Sch := ⟨[(1, Ss305fe5), (2, .v (.c (.i .u8))), (3, .v (.c (.ptr 0 0))), (7, .v (.c (.cst (.pointer none)))), (8, .v (.c (.i .i64)))], [Bsc2de19]⟩
def o3_s2 : Sch := ⟨[(1, Ss305fe5), (2, .v (.c (.i .u8))), (3, .v (.c (.ptr 0 0))), (7, .v (.c (.ptr 1 0))), (8, .v (.c (.ic .i64 (0))))], [Bsc2de19, Bs6046d6, Bs214155]⟩
def o3_s3 : Sch := ⟨[(1, Ss305fe5), (2, .v (.c (.i .u8))), (3, .v (.c (.ptr 0 0))), (7, .v (.c (.cst (.pointer none)))), (39, .v (.c (.bc true)))], [Bsc2de19]⟩
def o3_s4 : Sch := ⟨[(2, .v (.c (.i .u8))), (3, .v (.c (.ptr 0 0))), (7, .v (.c (.ptr 1 0))), (9, .v (.c (.own 2))), (42, Ss305fe5), (43, .v (.c (.i .i64))), (44, .v (.c (.i .i64)))], [Bsc2de19, Bs54a978, Bs881416, Bs2d204f]⟩
def o3_s5 : Sch := ⟨[(3, .v (.c (.ptr 0 0))), (7, .v (.c (.ptr 1 0))), (9, .v (.c (.own 2))), (15, .v (.c (.i .i64))), (16, .v (.c (.i .i64))), (82, .v (.c (.i .i64))), (83, .v (.c (.i .i64)))], [Bsc2de19, Bsc742e5, Bs881416, Bs2d204f, Bs2d204f]⟩
def o3_s6 : Sch := ⟨[(3, .v (.c (.ptr 0 0))), (7, .v (.c (.ptr 1 0))), (9, .v (.c (.own 2))), (15, .v (.c (.i .i64))), (16, .v (.c (.i .i64))), (17, .v (.c (.ptr 3 0))), (112, .v (.c (.b)))], [Bsc2de19, Bs5ed045, Bs881416, Bsdabc02, Bs2d204f, Bs2d204f, Bs214155]⟩
def o3_s7 : Sch := ⟨[(3, .v (.c (.ptr 0 0))), (7, .v (.c (.ptr 1 0))), (9, .v (.c (.own 2))), (15, .v (.c (.i .i64))), (17, .v (.c (.ptr 3 0))), (113, .v (.c (.i .i64))), (114, .v (.c (.i .i64)))], [Bsc2de19, Bs5ed045, Bs881416, Bsdabc02, Bs2d204f, Bs2d204f, Bs214155]⟩
def o3_s8 : Sch := ⟨[(3, .v (.c (.ptr 0 0))), (7, .v (.c (.ptr 1 0))), (18, .v (.c (.b))), (147, .v (.c (.b)))], [Bsc2de19, Bsae051e, Bs2d204f, Bs2d204f]⟩
def o3_s9 : Sch := ⟨[(3, .v (.c (.ptr 0 0))), (7, .v (.c (.ptr 1 0))), (164, .v (.c (.b)))], [Bsc2de19, Bsae051e, Bs2d204f, Bs2d204f]⟩
def o3_s10 : Sch := ⟨[(6, .v (.c (.b)))], []⟩
def p3 : Sch := ⟨[(0, Ss43f32a), (1, Ss305fe5), (2, .v (.c (.i .u8)))], []⟩
def r3 : List Sch := [⟨[(0, .v (.c (.b)))], []⟩]
def o3 (a0 : Ty9d3b88) (a1 : List Tyd205ef) (a2 : Int) : Option Bool :=
 (bd (α := ((List Tyd205ef × Int) × Bool × Ty9d3b88)) (bd (α := Int) (o4 a0) (fun v1 => (cnd (v1 != (0 : Int)) (some ((a1, a2), true, a0)) (some ((a1, a2), (decide (((a1.length : Nat) : Int) > (16 : Int))), a0))))) (fun v2 => (cnd v2.2.1 (some true) (bd (α := ((List Tyd205ef × Int) × Int × Ty9d3b88) ⊕ ((List Tyd205ef × Int) × Ty9d3b88 × Tyc035a2 × List Tya2e0c9)) (bd (α := Int ⊕ (Tyc035a2 × List Tya2e0c9)) (o5 v2.2.2) (fun v3 => (sm v3 (fun v4 => (some (Sum.inl (v2.1, v4, v2.2.2)))) (fun v5 => (some (Sum.inr (v2.1, v2.2.2, v5))))))) (fun v6 => (sm v6 (fun v7 => (bd (α := (List Tyd205ef × Int × Ty9d3b88)) (cnd (v7.2.1 != (0 : Int)) (some (v7.1.1, v7.1.2, v7.2.2)) (some (v7.1.1, v7.1.2, v7.2.2))) (fun v9 => (some false)))) (fun v8 => (loopO (σ := Tyd31f6f) fuelN (fun (v12 : Tyd31f6f) => (cnd (decide (v12.1.2.2 < v12.1.2.1)) (gd (decide ((0 : Int) ≤ v12.1.2.2 ∧ v12.1.2.2 < ((v12.1.1.2.length : Nat) : Int))) (bd (α := Tyd205ef) (some (List.getD v12.1.1.2 v12.1.2.2.toNat Dfbc384a)) (fun v13 => (gd (decide ((0 : Int) ≤ (IntKind.wrap .i64 (((v12.2.2.1.length : Nat) : Int) - (1 : Int))) ∧ (IntKind.wrap .i64 (((v12.2.2.1.length : Nat) : Int) - (1 : Int))) < ((v12.2.2.1.length : Nat) : Int))) (bd (α := Tyf1ba29) (some (List.getD v12.2.2.1 ((IntKind.wrap .i64 (((v12.2.2.1.length : Nat) : Int) - (1 : Int))).toNat) Dfaac591)) (fun v14 => (bd (α := (((List UInt8 × List UInt8) × Int × Int) × List Tya2e0c9)) (o6 ((([] : List UInt8), (0 : Int), (0 : Int)), (0 : Int), (0 : Int), (0 : Int)) ((v14.1, v14.2.1), v14.2.2) (((v13.1, v13.2.1, v13.2.2.1), v13.2.2.2.1, v13.2.2.2.2.1, v13.2.2.2.2.2.1), (v13.2.2.2.2.2.2.1.1, v13.2.2.2.2.2.2.1.2, v13.2.2.2.2.2.2.2.1), v13.2.2.2.2.2.2.2.2)) (fun v15 => (bd (α := (Int × Ty84dfad × List Tyb7b0f3)) (o7v2 ((([] : List UInt8), (0 : Int), (0 : Int)), (0 : Int), (0 : Int), (0 : Int)) (((v13.1, v13.2.1, v13.2.2.1), v13.2.2.2.1, v13.2.2.2.2.1, v13.2.2.2.2.2.1), (v13.2.2.2.2.2.2.1.1, v13.2.2.2.2.2.2.1.2, v13.2.2.2.2.2.2.2.1), v13.2.2.2.2.2.2.2.2) v12.2.1.2 v12.2.2.2) (fun v16 => (cnd (v16.1 != v15.1.2.2) (dnO (some false)) (cnd (v15.1.2.2 == (0 : Int)) (gd (decide ((v12.2.2.1.length + ([(v15.1.1.1, (v15.1.1.2, (v15.2, v15.1.2.1)))] : List Tyf1ba29).length) * 64 ≤ 140737488355328)) (some (Ctl.go ((v12.1.1, v12.1.2.1, (IntKind.wrap .i64 (v12.1.2.2 + (1 : Int)))), (v12.2.1.1, v16.2.1), (v12.2.2.1 ++ ([(v15.1.1.1, (v15.1.1.2, (v15.2, v15.1.2.1)))] : List Tyf1ba29)), v16.2.2)))) (some (Ctl.go ((v12.1.1, v12.1.2.1, (IntKind.wrap .i64 (v12.1.2.2 + (1 : Int)))), (v12.2.1.1, v16.2.1), v12.2.2.1, v16.2.2))))))))))))))) (dnO (gd (decide ((IntKind.wrap .i64 ((IntKind.wrap .i64 (((v12.2.2.1.length : Nat) : Int) - (1 : Int))) + (1 : Int))) ≠ 0)) (loopO (σ := Ty5867c3) fuelN (fun (v18 : Ty5867c3) => (cnd (decide (v18.1.2.2 < v18.1.2.1)) (bd (α := ((Int × Ty84dfad) × List Tyb7b0f3 × List Tyb7b0f3)) (o8v1 v18.2.1.2 v18.2.2.2.1 v18.2.2.2.2) (fun v19 => (cnd (v19.1.1 != (0 : Int)) (dnO (some false)) (some (Ctl.go ((v18.1.1, v18.1.2.1, (IntKind.wrap .i64 (v18.1.2.2 + (1 : Int)))), (v18.2.1.1, v19.1.2), v18.2.2.1, v19.2)))))) (dnO (bd (α := (((List UInt8 × List UInt8) × Int × Bool) × List Tya2e0c9)) (o9 ((v18.2.1.2.1.1, v18.2.1.2.1.2.1, v18.2.1.2.1.2.2, v18.2.1.2.2.1.1), (v18.2.1.2.2.1.2, v18.2.1.2.2.2.1, v18.2.1.2.2.2.2.1), v18.2.1.2.2.2.2.2, v18.2.2.2)) (fun v20 => (bd (α := Ty62c88c) (cnd (!(v20.1.2.2 == (decide (v18.1.1.2 < v18.1.1.1)))) (some ((v18.1.1, true, v18.2.1), (v18.2.2.1, v20.1.1.1, v20.1.1.2, v20.1.2.1), v18.2.2.2.1, v18.2.2.2.2, v20.2)) (cnd v20.1.2.2 (gd (decide ((0 : Int) ≤ (IntKind.wrap .i64 (v18.1.1.1 - v18.1.1.2)) ∧ (IntKind.wrap .i64 (v18.1.1.1 - v18.1.1.2)) < ((v18.2.2.1.length : Nat) : Int))) (bd (α := Tyf1ba29) (some (List.getD v18.2.2.1 ((IntKind.wrap .i64 (v18.1.1.1 - v18.1.1.2)).toNat) Dfaac591)) (fun v23 => (bd (α := Bool) (o10 (v20.1.1, v20.2, v20.1.2.1) ((v23.1, v23.2.1), v23.2.2)) (fun v24 => (some ((v18.1.1, (!v24), v18.2.1), (v18.2.2.1, v20.1.1.1, v20.1.1.2, v20.1.2.1), v18.2.2.2.1, v18.2.2.2.2, v20.2))))))) (some ((v18.1.1, false, v18.2.1), (v18.2.2.1, v20.1.1.1, v20.1.1.2, v20.1.2.1), v18.2.2.2.1, v18.2.2.2.2, v20.2)))) (fun v25 => (cnd v25.1.2.1 (some false) (loopO (σ := Ty60ea91) fuelN (fun (v27 : Ty60ea91) => (cnd (decide (v27.1.2.1 < v27.1.1.2)) (bd (α := ((Int × Ty84dfad) × List Tyb7b0f3 × List Tyb7b0f3)) (o11 v27.1.2.2.2 v27.2.2.1 v27.2.2.2.1) (fun v28 => (cnd (v28.1.1 != (0 : Int)) (dnO (some false)) (some (Ctl.go ((v27.1.1, (IntKind.wrap .i64 (v27.1.2.1 + (1 : Int))), v27.1.2.2.1, v28.1.2), v27.2.1, v28.2.1, v28.2.2, v27.2.2.2.2)))))) (dnO (bd (α := (((List UInt8 × List UInt8) × Int × Bool) × List Tya2e0c9)) (o9 ((v27.1.2.2.2.1.1, v27.1.2.2.2.1.2.1, v27.1.2.2.2.1.2.2, v27.1.2.2.2.2.1.1), (v27.1.2.2.2.2.1.2, v27.1.2.2.2.2.2.1, v27.1.2.2.2.2.2.2.1), v27.1.2.2.2.2.2.2.2, v27.2.2.1, v27.2.2.2.1)) (fun v29 => (bd (α := Tyeec796) (cnd (!(v29.1.2.2 == (decide (v27.1.1.1 > (0 : Int))))) (some ((v29.1.2.2, true, v27.1.2.2.1), v27.1.2.2.2, v27.2.2.1, v27.2.2.2.1)) (cnd v29.1.2.2 (gd (decide ((0 : Int) ≤ v27.1.1.1 ∧ v27.1.1.1 < ((v27.2.1.1.length : Nat) : Int))) (bd (α := Tyf1ba29) (some (List.getD v27.2.1.1 v27.1.1.1.toNat Dfaac591)) (fun v36 => (bd (α := Bool) (o10 (v29.1.1, v29.2, v29.1.2.1) ((v36.1, v36.2.1), v36.2.2)) (fun v37 => (cnd (!v37) (some ((v29.1.2.2, true, v27.1.2.2.1), v27.1.2.2.2, v27.2.2.1, v27.2.2.2.1)) (bd (α := ((List UInt8 × List UInt8 × Int) × List Tya2e0c9)) (o12 ((v27.1.2.2.2.1.1, v27.1.2.2.2.1.2.1, v27.1.2.2.2.1.2.2, v27.1.2.2.2.2.1.1), (v27.1.2.2.2.2.1.2, v27.1.2.2.2.2.2.1, v27.1.2.2.2.2.2.2.1), v27.1.2.2.2.2.2.2.2, v27.2.2.1, v27.2.2.2.1)) (fun v38 => (bd (α := Bool) (o10 ((v38.1.1, v38.1.2.1), v38.2, v38.1.2.2) v27.1.2.2.1) (fun v39 => (some ((v29.1.2.2, (!v39), v27.1.2.2.1), v27.1.2.2.2, v27.2.2.1, v27.2.2.2.1)))))))))))) (bd (α := ((List UInt8 × List UInt8 × Int) × List Tya2e0c9)) (o12 ((v27.1.2.2.2.1.1, v27.1.2.2.2.1.2.1, v27.1.2.2.2.1.2.2, v27.1.2.2.2.2.1.1), (v27.1.2.2.2.2.1.2, v27.1.2.2.2.2.2.1, v27.1.2.2.2.2.2.2.1), v27.1.2.2.2.2.2.2.2, v27.2.2.1, v27.2.2.2.1)) (fun v40 => (bd (α := Bool) (o10 ((v40.1.1, v40.1.2.1), v40.2, v40.1.2.2) v27.1.2.2.1) (fun v41 => (some ((v29.1.2.2, (!v41), v27.1.2.2.1), v27.1.2.2.2, v27.2.2.1, v27.2.2.2.1)))))))) (fun v42 => (cnd v42.1.2.1 (some false) (cnd (!v42.1.1) (bd (α := ((Int × Ty84dfad) × List Tyb7b0f3 × List Tyb7b0f3)) (o13 v42.2.1 v42.2.2.1 v42.2.2.2) (fun v43 => (some (v43.1.1 == (8 : Int))))) (bd (α := (((List UInt8 × List UInt8) × Int × Bool) × List Tya2e0c9)) (o9 ((v42.2.1.1.1, v42.2.1.1.2.1, v42.2.1.1.2.2, v42.2.1.2.1.1), (v42.2.1.2.1.2, v42.2.1.2.2.1, v42.2.1.2.2.2.1), v42.2.1.2.2.2.2, v42.2.2)) (fun v44 => (bd (α := ((Bool × Ty9d3b88) × Ty84dfad × List Tyb7b0f3 × List Tyb7b0f3)) (bd (α := ((Int × Ty84dfad) × List Tyb7b0f3 × List Tyb7b0f3)) (o13 v42.2.1 v42.2.2.1 v42.2.2.2) (fun v45 => (cnd (v45.1.1 != (0 : Int)) (some ((true, v42.1.2.2), v45.1.2, v45.2)) (some (((!v44.1.2.2), v42.1.2.2), v45.1.2, v45.2))))) (fun v46 => (cnd v46.1.1 (some false) (bd (α := (((List UInt8 × List UInt8) × Int × Bool) × List Tya2e0c9)) (o9 ((v46.2.1.1.1, v46.2.1.1.2.1, v46.2.1.1.2.2, v46.2.1.2.1.1), (v46.2.1.2.1.2, v46.2.1.2.2.1, v46.2.1.2.2.2.1), v46.2.1.2.2.2.2, v46.2.2)) (fun v47 => (bd (α := Bool) (cnd (!v47.1.2.2) (bd (α := ((List UInt8 × List UInt8 × Int) × List Tya2e0c9)) (o12 ((v46.2.1.1.1, v46.2.1.1.2.1, v46.2.1.1.2.2, v46.2.1.2.1.1), (v46.2.1.2.1.2, v46.2.1.2.2.1, v46.2.1.2.2.2.1), v46.2.1.2.2.2.2, v46.2.2)) (fun v50 => (bd (α := Bool) (o10 ((v50.1.1, v50.1.2.1), v50.2, v50.1.2.2) v46.1.2) (fun v51 => (some v51))))) (some false)) (fun v52 => (some v52))))))))))))))))))) ((v25.1.1, (0 : Int), v25.1.2.2), v25.2)))))))))) ((((IntKind.wrap .i64 (((v12.2.2.1.length : Nat) : Int) - (1 : Int))), (Int.tmod (IntKind.wrap .i64 v12.1.1.1) (IntKind.wrap .i64 ((IntKind.wrap .i64 (((v12.2.2.1.length : Nat) : Int) - (1 : Int))) + (1 : Int))))), (Int.tmod (IntKind.wrap .i64 v12.1.1.1) (IntKind.wrap .i64 ((IntKind.wrap .i64 (((v12.2.2.1.length : Nat) : Int) - (1 : Int))) + (1 : Int)))), (0 : Int)), v12.2.1, v12.2.2.1, v12.2.2.2, ([] : List Tyb7b0f3))))))) (((v8.1.2, v8.1.1), ((v8.1.1.length : Nat) : Int), (0 : Int)), (v8.2.1, (v8.2.2.1.1, v8.2.2.2, v8.2.2.1.2.1), v8.2.2.1.2.2, ([] : List Tya2e0c9), (0 : Int), false), ([(v8.2.1.1.1, (v8.2.1.1.2, (v8.2.1.2.1, v8.2.1.2.2)))] : List Tyf1ba29), ([] : List Tyb7b0f3))))))))))
def h3 : HC := (.s .d (.s (.s (.j false [o3_s0] .d) .d) (.s (.j false [o3_s1, o3_s2] .d) (.on ⟨[(7, .v (.c (.cst (.pointer none))))], []⟩ (.s (.s (.j false [o3_s3] .d) .d) .d) (.s .d (.s .d (.s (.s .d (.b (.l [o3_s4] .d))) (.s .d (.s .d (.s (.s .d (.b (.l [o3_s5] .d))) (.s .d (.s (.s (.j false [o3_s6] .d) .d) (.s (.s .d (.b (.l [o3_s7] .d))) (.s .d (.s (.s (.j false [o3_s8] (.r 1)) .d) (.s .d (.s .d (.s (.s (.j false [o3_s9] .d) .d) (.s .d (.s (.j false [o3_s10] (.r 1)) .d))))))))))))))))))))
theorem e3 (t : Ty9d3b88 × List Tyd205ef × Int) : evF (stpT Tryz.prog T84 K84) Tryz.f3 p3 r3 h3 t = (o3 t.1 t.2.1 t.2.2) := by kernel_rfl
theorem fo3 : FOk Tryz.prog 3 ⟨p3, r3, fun t => (o3 t.1 t.2.1 t.2.2)⟩ := FOk.run_eq (evF_ok (h := h3) (by kernel_rfl) (by kernel_rfl) (by kernel_rfl)) e3
end
end Go.Proofs.YtehljpghmbobfaaGreatDoor
namespace Go.Proofs.YtehljpghmbobfaaGreatDoor
set_option linter.unusedVariables false
set_option linter.unusedSimpArgs false
open Go.RowKit
theorem dt {p : Prop} [Decidable p] (h : p) : decide p = true := decide_eq_true h
theorem df {p : Prop} [Decidable p] (h : ¬ p) : decide p = false := decide_eq_false h
theorem w8 {k : Nat} (h : k ≤ 1000) : IntKind.i64.wrap (8 * ((k : Nat) : Int)) = 8 * (k : Int) := wr64 (by omega)
theorem neq_f {a b : Int} (h : a = b) : (a != b) = false := by simpa using h
theorem eq_f {a b : Int} (h : a ≠ b) : (a == b) = false := by simpa using h
set_option maxRecDepth 100000
theorem cndT {α : Type} {c : Bool} {x y : α} (h : c = true) : cnd c x y = x := by subst h; rfl
theorem cndF {α : Type} {c : Bool} {x y : α} (h : c = false) : cnd c x y = y := by subst h; rfl
theorem gdT {α : Type} {c : Bool} {x : Option α} (h : c = true) : gd c x = x := by subst h; rfl
theorem bdS {α β : Type} {x : Option α} {t : α} {k : α → Option β} (h : x = some t) : bd x k = k t := by subst h; rfl
theorem bdI {α β : Type} (t : α) (k : α → Option β) : bd (some t) k = k t := rfl
theorem dnS {α β : Type} (x : β) : dnO (α := α) (some x) = some (.done x) := rfl
theorem smR {α β ρ : Type} (b : β) (f : α → ρ) (g : β → ρ) : sm (.inr b) f g = g b := rfl
theorem loop_cnt {σ ρ : Type} {B : σ → Option (Ctl σ ρ)} (S : Nat → σ) {r : ρ} {n : Nat} (h : ∀ i, i < n → B (S i) = some (.go (S (i + 1)))) (hd : B (S n) = some (.done r)) (hn : n < 18446744073709551616) : loopO fuelN B (S 0) = some r := by
  have key : ∀ k m, k ≤ n → k < m → loopO m B (S (n - k)) = some r := by
    intro k
    induction k with
    | zero =>
      intro m _ hm
      obtain ⟨j, rfl⟩ : ∃ j, m = j + 1 := ⟨m - 1, by omega⟩
      exact loopO_done hd
    | succ k ih =>
      intro m hk hm
      obtain ⟨j, rfl⟩ : ∃ j, m = j + 1 := ⟨m - 1, by omega⟩
      rw [loopO_go (h (n - (k + 1)) (by omega)), show n - (k + 1) + 1 = n - k by omega]
      exact ih j (by omega) (by omega)
  have := key n fuelN (Nat.le_refl _) (by show n < 18446744073709551616; exact hn)
  rw [Nat.sub_self] at this
  exact this
theorem getD_of {α : Type} {l : List α} {i : Nat} {d : α} (h : i < l.length) : l.getD i d = l[i] := by
  rw [List.getD_eq_getElem?_getD, List.getElem?_eq_getElem h]; rfl
theorem loop_meas {σ ρ : Type} {B : σ → Option (Ctl σ ρ)} (I : σ → Prop) (m : σ → Nat) {Q : ρ → Prop} (h : ∀ s, I s → (∃ s', B s = some (.go s') ∧ I s' ∧ m s' < m s) ∨ (∃ r, B s = some (.done r) ∧ Q r)) {s0 : σ} (h0 : I s0) (hm : m s0 < 18446744073709551615) : ∃ r, loopO fuelN B s0 = some r ∧ Q r := by
  have key : ∀ n s, m s < n → I s → ∃ r, loopO n B s = some r ∧ Q r := by
    intro n
    induction n with
    | zero => intro s hs; omega
    | succ n ih =>
      intro s hs hi
      rcases h s hi with ⟨s', h1, h2, h3⟩ | ⟨r, h1, h2⟩
      · rw [loopO_go h1]
        exact ih s' (by omega) h2
      · exact ⟨r, loopO_done h1, h2⟩
  exact key fuelN s0 (by show m s0 < 18446744073709551616; omega) h0
theorem loop_one {σ ρ : Type} {B : σ → Option (Ctl σ ρ)} {s : σ} {r : ρ} (hd : B s = some (.done r)) : loopO fuelN B s = some r := loop_cnt (n := 0) (fun _ => s) (fun i h => absurd h (Nat.not_lt_zero i)) hd (by decide)
end Go.Proofs.YtehljpghmbobfaaGreatDoor
