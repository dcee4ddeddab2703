/-
The engine, part 11: == and != on structures. Conditions: each lemma's own.
-/
import Derived.Test.YtpleflcfaecojaaGreatE10
import Derived.Laws.StructEq
import Derived.ChangeKeysEq
namespace Go.Proofs.YtpleflcfaecojaaGreat
set_option linter.unusedVariables false
set_option linter.unusedSimpArgs false
open Go.RowKit
section
variable {P : Program} {n : Nat} {p : Psi} {own : Own} {sl : Sl} {ty : TypeId}
def partOf (P : Program) (t : TypeId) (xs : Array Value) (off : Nat) : Option Value :=
  match aggOf P t with
  | some m => some (.agg (xs.extract off (off + m)))
  | none => if flatOf P t then xs[off]? else none
theorem run_partOf {t : TypeId} {xs : Array Value} {off : Nat} {v : Value} (h : partOf P t xs off = some v) (w : World) : (part t xs off).run P w = .ok v w := by
  unfold partOf at h
  split at h
  · rename_i m hm
    injection h with h
    obtain ⟨h1, h2⟩ := run_isAgg_of hm w
    subst h
    simp [part, h1, h2]
  · split at h
    · rename_i hf
      have h1 := run_isAgg_flat hf w
      simp [part, h1, h]
    · cases h
def joinB (c : Bool) : Option Bool → Option Bool
  | none => some c
  | some r => some (c && r)
def eqOf (P : Program) : Nat → TypeId → Value → Value → Option Bool
  | 0, _, _, _ => none
  | d + 1, t, x, y =>
    match P.underlying t, x, y with
    | some .bool, .bool a, .bool b => some (a == b)
    | some .string, .string a, .string b => some (a.toList == b.toList)
    | some (.int _), .int k a, .int k' b => if k = k' then some (a == b) else none
    | some (.struct _), .agg xs, .agg ys =>
      if P.stoodInHeld t then none else
      match (P.fieldsOf t).toList.foldr (fun f r => match r with
        | none => none
        | some r => if f.name = "_" then some r else
          match partOf P f.type xs f.offset, partOf P f.type ys f.offset with
          | some a, some b => match eqOf P d f.type a b with
            | some c => some (joinB c r)
            | none => none
          | _, _ => none) (some none) with
      | some (some b) => some b
      | _ => none
    | some (.array m e), .agg xs, .agg ys =>
      match P.info? e with
      | none => none
      | some _ => match (List.range m).foldr (fun i r => match r with
          | none => none
          | some r => match partOf P e xs (i * P.cellsOf e), partOf P e ys (i * P.cellsOf e) with
            | some a, some b => match eqOf P d e a b with
              | some c => some (joinB c r)
              | none => none
            | _, _ => none) (some none) with
        | some (some b) => some b
        | _ => none
    | _, _, _ => none
theorem run_eqIs {d D : Nat} {w : World} {e : TypeId} {k : Nat} {xs ys : Array Value} (ih : ∀ t x y b, eqOf P d t x y = some b → (Op.equalIn (d + D) t x y).run P w = .ok b w) : ∀ (is : List Nat) (r : Option Bool),
    is.foldr (fun i r => match r with
          | none => none
          | some r => match partOf P e xs (i * k), partOf P e ys (i * k) with
            | some a, some b => match eqOf P d e a b with
              | some c => some (joinB c r)
              | none => none
            | _, _ => none) (some none) = some r → (Op.eqItems (d + D) e k xs ys is).run P w = .ok (r.getD true) w
  | [], r, h => by injection h with h; subst h; simp [Op.eqItems]
  | i :: is, r, h => by
    rw [List.foldr_cons] at h
    split at h
    · cases h
    · rename_i r1 hr1
      have ih2 := run_eqIs ih is r1 hr1
      split at h
      · rename_i a b ha hb
        split at h
        · rename_i c hc
          injection h with h
          have e := ih _ _ _ _ hc
          subst h
          simp only [Op.eqItems, Sem.run_bind, run_partOf ha, run_partOf hb, Result.andThen_ok, e]
          cases c with
          | false => cases r1 <;> simp [joinB]
          | true => cases r1 <;> simp [joinB, ih2]
        · cases h
      · cases h
theorem run_eqFs {d D : Nat} {w : World} {xs ys : Array Value} (ih : ∀ t x y b, eqOf P d t x y = some b → (Op.equalIn (d + D) t x y).run P w = .ok b w) : ∀ (fs : List Field) (r : Option Bool),
    fs.foldr (fun f r => match r with
        | none => none
        | some r => if f.name = "_" then some r else
          match partOf P f.type xs f.offset, partOf P f.type ys f.offset with
          | some a, some b => match eqOf P d f.type a b with
            | some c => some (joinB c r)
            | none => none
          | _, _ => none) (some none) = some r → (Op.eqFields (d + D) xs ys fs).run P w = .ok (r.getD true) w
  | [], r, h => by injection h with h; subst h; simp [Op.eqFields]
  | f :: fs, r, h => by
    rw [List.foldr_cons] at h
    split at h
    · cases h
    · rename_i r1 hr1
      have ih2 := run_eqFs ih fs r1 hr1
      split at h
      · rename_i hn
        injection h with h; subst h
        simp [Op.eqFields, hn, ih2]
      · rename_i hn
        split at h
        · rename_i a b ha hb
          split at h
          · rename_i c hc
            injection h with h
            have e := ih _ _ _ _ hc
            subst h
            simp only [Op.eqFields, hn, ne_eq, not_false_eq_true, if_true, Sem.run_bind, run_partOf ha, run_partOf hb, Result.andThen_ok, e]
            cases c with
            | false => cases r1 <;> simp [joinB]
            | true => cases r1 <;> simp [joinB, ih2]
          · cases h
        · cases h
theorem run_eqOf {w : World} : ∀ (d D : Nat) (t : TypeId) (x y : Value) (b : Bool), eqOf P d t x y = some b → (Op.equalIn (d + D) t x y).run P w = .ok b w
  | 0, D, t, x, y, b, h => by cases h
  | d + 1, D, t, x, y, b, h => by
    rw [show d + 1 + D = (d + D) + 1 by omega]
    unfold eqOf at h
    split at h
    · rename_i a b' ht
      injection h with h; subst h
      exact run_equalIn_bool' w _ t a b' ht
    · rename_i a b' ht
      injection h with h; subst h
      exact run_equalIn_string w _ t a b' ht
    · rename_i k0 k a k' b' ht
      split at h
      · rename_i hk
        injection h with h; subst h; subst hk
        exact run_equalIn_int w _ t k k0 a b' ht
      · cases h
    · rename_i fs xs ys ht
      split at h
      · cases h
      · rename_i hst
        split at h
        · rename_i b' hf
          injection h with h; subst h
          have hfs : P.underlying t = some (.struct (P.fieldsOf t)) := by simp [Program.fieldsOf, ht]
          rw [run_equalIn_struct w _ t xs ys hfs (by simpa using hst)]
          exact run_eqFs (fun t x y b h => run_eqOf d D t x y b h) _ _ hf
        · cases h
    · rename_i m e xs ys ht
      split at h
      · cases h
      · rename_i i hi
        split at h
        · rename_i b' hf
          injection h with h; subst h
          rw [run_equalIn_array w _ xs ys ht hi]
          exact run_eqIs (fun t x y b h => run_eqOf d D t x y b h) _ _ hf
        · cases h
    · cases h
theorem y_eqA {t u : TypeId} {x y : Operand} {xs ys : Array Value} {b : Bool} (hx : evS sl x = some (.agg xs)) (hy : evS sl y = some (.agg ys)) (hg : P.eqGuardType P.depth t = false) (h : eqOf P 9 t (.agg xs) (.agg ys) = some b) : Yld P n p own sl (.binOp .eql t x y u) ty (.bool b) := by
  intro o a w h1 h2 hf hr
  have e := run_eqOf (P := P) (w := w) 9 9991 t _ _ b h
  have e2 := run_eql_struct (P := P) w t xs ys
  rw [e] at e2
  simp [execOp, h1, hf.ev hx, hf.ev hy, run_eqGuard_agg (P := P) w .eql t x y xs ys hg, e2]
theorem y_neA {t u : TypeId} {x y : Operand} {xs ys : Array Value} {b : Bool} (hx : evS sl x = some (.agg xs)) (hy : evS sl y = some (.agg ys)) (hg : P.eqGuardType P.depth t = false) (h : eqOf P 9 t (.agg xs) (.agg ys) = some b) : Yld P n p own sl (.binOp .neq t x y u) ty (.bool (!b)) := by
  intro o a w h1 h2 hf hr
  have e := run_eqOf (P := P) (w := w) 9 9991 t _ _ b h
  have e2 := run_neq_struct (P := P) w t xs ys
  rw [e] at e2
  simp [execOp, h1, hf.ev hx, hf.ev hy, run_eqGuard_agg (P := P) w .neq t x y xs ys hg, e2]
end
end Go.Proofs.YtpleflcfaecojaaGreat
