/-
The engine, part 7: the rules as the printing program uses them: each side condition a closed equation. Conditions: each lemma's own.
-/
import Derived.Test.YtnidomdebhekiaaGreatE6
namespace Go.Proofs.YtnidomdebhekiaaGreat
set_option linter.unusedVariables false
set_option linter.unusedSimpArgs false
open Go.RowKit
section
variable {P : Program} {ops : Array Oper} {Q : Exit → Act → World → Prop} {n : Nat} {g : Gh} {own : Own} {sl : Sl} {ty : TypeId} {p : Psi}
theorem wpr_grp {i : Nat} (j : Nat) (sl' : Sl) (hk : WPr P ops Q n j g own sl' → WPr P ops Q n i g own sl) (k : WPr P ops Q n j g own sl') : WPr P ops Q n i g own sl := hk k
theorem wpa_grp {lds fin : List Nat} {K : Own} {fuel : Nat} {listed : List Bool} (fuel' : Nat) (listed' : List Bool) (sl' : Sl) (hk : WPa P ops Q lds fin p K fuel' listed' n g own sl' → WPa P ops Q lds fin p K fuel listed n g own sl) (k : WPa P ops Q lds fin p K fuel' listed' n g own sl') : WPa P ops Q lds fin p K fuel listed n g own sl := hk k
theorem re_and1 {b c : Bool} (h : b = true) : Value.bool c = Value.bool (b && c) := by rw [h]; rfl
theorem re_and0 {b c : Bool} (h : b = false) : Value.bool false = Value.bool (b && c) := by rw [h]; rfl
theorem re_or0 {b c : Bool} (h : b = false) : Value.bool c = Value.bool (b || c) := by rw [h]; rfl
theorem re_or1 {b c : Bool} (h : b = true) : Value.bool true = Value.bool (b || c) := by rw [h]; rfl
end
theorem wr64 {x : Int} (h : -9223372036854775808 ≤ x ∧ x ≤ 9223372036854775807) : IntKind.i64.wrap x = x := IntWalk.i64_in x h
theorem wr_u8 {x : Int} (h : 0 ≤ x ∧ x ≤ 255) : IntKind.u8.wrap x = x := IntWalk.u8_in x h
theorem wr_u64 {x : Int} (h : 0 ≤ x ∧ x ≤ 18446744073709551615) : IntKind.u64.wrap x = x := by
  rw [IntKind.wrap_u64]; omega
theorem not_eq_true_ {b : Bool} (h : (!b) = true) : b = false := by cases b <;> simp_all
theorem not_eq_false_ {b : Bool} (h : (!b) = false) : b = true := by cases b <;> simp_all
theorem and_true_ {a b : Bool} (h : (a && b) = true) : a = true ∧ b = true := by cases a <;> cases b <;> simp_all
theorem or_false_ {a b : Bool} (h : (a || b) = false) : a = false ∧ b = false := by cases a <;> cases b <;> simp_all
theorem ne_of_beq_false_ {α : Type} [BEq α] [LawfulBEq α] {a b : α} (h : (a == b) = false) : ¬ a = b := by simpa using h
theorem eq_of_bne_false_ {α : Type} [BEq α] [LawfulBEq α] {a b : α} (h : (a != b) = false) : a = b := by simpa using h
theorem ne_of_bne_ {α : Type} [BEq α] [LawfulBEq α] {a b : α} (h : (a != b) = true) : ¬ a = b := by simpa using h
def maxI (a b : Int) : Int := if b > a then b else a
def minI (a b : Int) : Int := if b < a then b else a
theorem maxI_spec (a b : Int) : a ≤ maxI a b ∧ b ≤ maxI a b ∧ (maxI a b = a ∨ maxI a b = b) := by unfold maxI; split <;> omega
theorem minI_spec (a b : Int) : minI a b ≤ a ∧ minI a b ≤ b ∧ (minI a b = a ∨ minI a b = b) := by unfold minI; split <;> omega
def landK (k : IntKind) (a b : Int) : Int := k.wrap (BitVec.ofInt k.bits a &&& BitVec.ofInt k.bits b).toNat
def lorK (k : IntKind) (a b : Int) : Int := k.wrap (BitVec.ofInt k.bits a ||| BitVec.ofInt k.bits b).toNat
def shlK (k : IntKind) (a b : Int) : Int := k.wrap (a * 2 ^ (min b.toNat k.bits))
def shrK (k : IntKind) (a b : Int) : Int := a.fdiv (2 ^ (min b.toNat k.bits))
theorem get_getD {α : Type} {l : List α} {i : Nat} {d : α} (h : i < l.length) : l[i]? = some (l.getD i d) := by
  rw [List.getD_eq_getElem?_getD, List.getElem?_eq_getElem h]; rfl
section
variable {P : Program} {n : Nat} {p : Psi} {own : Own} {sl : Sl} {ty : TypeId}
theorem q_index {t e : TypeId} {x i : Operand} (idx : Nat) {A : Addr} {A0 : Option Addr} {len c sz : Nat} {k : IntKind} {z : Int} (hA : A0 = some A) (hx : evS sl x = some (.slice A0 len c)) (hi : evS sl i = some (.int k z)) (hz : z = (idx : Int)) (hlt : idx < len) (ht : P.underlying t = some (.slice e)) (hs : cellsOfT P e = some sz) :
    Yld P n p own sl (.indexAddr t x i) ty (.pointer (some (A.add (idx * sz)))) := by
  subst hA; subst hz
  exact y_index idx hx hi hlt ht hs
theorem ev_toNat {x : Operand} {k : IntKind} {z : Int} (h : evS sl x = some (.int k z)) (h0 : 0 ≤ z) : evS sl x = some (.int k ((z.toNat : Nat) : Int)) := by
  rw [h, Int.toNat_of_nonneg h0]
theorem run_equalIn_nil {w : World} (d : Nat) {t e : TypeId} {A : Option Addr} {l c l2 c2 : Nat} (ht : P.underlying t = some (.slice e)) : (Op.equalIn (d + 1) t (.slice A l c) (.slice none l2 c2)).run P w = .ok A.isNone w := by
  cases A <;> simp [Op.equalIn, run_underlying ht]
theorem y_isnil {t u e : TypeId} {x y : Operand} {A : Option Addr} {l c l2 c2 : Nat} (hx : evS sl x = some (.slice A l c)) (hy : evS sl y = some (.slice none l2 c2)) (ht : P.underlying t = some (.slice e)) : Yld P n p own sl (.binOp .eql t x y u) ty (.bool A.isNone) := by
  intro o a w h1 h2 hf hr
  have e1 : (Op.equal t (.slice A l c) (.slice none l2 c2)).run P w = .ok A.isNone w := run_equalIn_nil 9999 ht
  have e2 : (binOp .eql t (.slice A l c) (.slice none l2 c2)).run P w = .ok (.bool A.isNone) w := by
    simp only [binOp, Sem.run_bind, e1, Result.andThen_ok, Sem.run_pure]
  simp only [execOp, h1, hf.ev hx, hf.ev hy, eqGuard]
  simp [e2]
end
section
variable {P : Program} {n : Nat} {g : Gh} {own : Own} {sl : Sl} {ty : TypeId} {α : Type} {T : Ty α} {p : Psi}
theorem reps_nil : Reps T p [] [] := rfl
theorem reps_cons {c cs : List Value} {x : α} {xs : List α} (h : T.rep p c x) (k : Reps T p cs xs) : Reps T p (c ++ cs) (x :: xs) := ⟨c, cs, rfl, h, k⟩
def Flat (T : Ty α) : Prop := ∀ p q cs x, T.rep p cs x → T.rep q cs x
theorem flatU8 : Flat tyU8 := fun _ _ _ _ h => h
theorem Flat.reps (hT : Flat T) {q : Psi} : ∀ {xs : List α} {cs : List Value}, Reps T p cs xs → Reps T q cs xs
  | [], cs, h => h
  | x :: xs, cs, ⟨c1, c2, e, h1, h2⟩ => ⟨c1, c2, e, hT _ _ _ _ h1, hT.reps h2⟩
theorem Arr.srcR {A : Option Addr} {c : Nat} {xs : List α} (h : Arr g.r T A c xs) : ∃ news, Reps T g.r news xs ∧ ∀ w own, St w g own → Src w A xs.length news := by
  obtain ⟨news, h1, h2⟩ := h.src
  exact ⟨news, h1, fun w own hs => h2 w hs.r⟩
theorem Arr.srcB {A : Option Addr} {c : Nat} {xs : List α} (h : Arr g.b T A c xs) : ∃ news, Reps T g.b news xs ∧ ∀ w own, St w g own → Src w A xs.length news := by
  obtain ⟨news, h1, h2⟩ := h.src
  exact ⟨news, h1, fun w own hs => h2 w (hs.r.mono g.br)⟩
def u8 (z : Int) : UInt8 := UInt8.ofNat z.toNat
theorem u8_rep {z : Int} (h : 0 ≤ z ∧ z ≤ 255) : tyU8.rep p [.int .u8 z] (u8 z) := by
  show [Value.int .u8 z] = [Value.int .u8 ((u8 z).toNat : Int)]
  have : ((u8 z).toNat : Int) = z := by
    unfold u8
    rw [UInt8.toNat_ofNat']
    omega
  rw [this]
theorem wrapU8_rng (x : Int) : 0 ≤ IntKind.u8.wrap x ∧ IntKind.u8.wrap x ≤ 255 := by
  rw [IntKind.wrap_u8]; omega
theorem Arr.nil_of {A : Option Addr} {c : Nat} {xs : List α} (h : Arr p T A c xs) (hA : A.isNone = true) : xs = [] := by
  obtain ⟨_, _, cs, _, hrow⟩ := h
  cases xs with
  | nil => rfl
  | cons x xs =>
    obtain ⟨ad, e, _⟩ := hrow (by simp)
    subst e
    cases hA
end
section
variable {P : Program} {n : Nat} {g : Gh} {own : Own} {sl : Sl} {ty : TypeId} {α : Type} {T : Ty α} {p : Psi}
theorem lent {rest : Own} {k : Bk} (i : Nat) (h : rest[i]? = some (some k)) : some k ∈ rest := List.mem_of_getElem? h
end
end Go.Proofs.YtnidomdebhekiaaGreat
