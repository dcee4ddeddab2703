/-
The second engine, part 9: parts of strings, their order, functions of the library that the model tells by itself. Conditions: each lemma's own.
-/
import Derived.Test.YthfekfebgghjhaaDoorG8
import Derived.Lib.Bytealg
namespace Go.Proofs.YthfekfebgghjhaaDoor
set_option linter.unusedVariables false
set_option linter.unusedSimpArgs false
open Go.RowKit
/-- x stands ahead of y, as Go orders strings -/
def strLt (x y : List UInt8) : Bool := Op.bytesLess (mkS x).toList (mkS y).toList
def strLe (x y : List UInt8) : Bool := strLt x y || strEq x y
def strGt (x y : List UInt8) : Bool := !(strLt x y || strEq x y)
def strGe (x y : List UInt8) : Bool := !strLt x y
theorem strLt_eq (x y : List UInt8) : strLt x y = Op.bytesLess x y := by unfold strLt; rw [mkS_toList, mkS_toList]
section
variable {P : Program} {n : Nat} {own : Own} {sl : Sl} {ty : TypeId} {op : Op} {p : Psi}
/-- a part of a string -/
def slsC (P : Program) (sl : Sl) (op : Op) : Option (ByteArray × Option Int × Option Int) := match op with
  | .slice t x lo hi none => match evS sl x, P.underlying t with
    | some (.string s), some .string =>
      let get : Option Operand → Option (Option Int) := fun y => match y with
        | none => some none
        | some y => match evS sl y with
          | some (.int _ z) => some (some z)
          | _ => none
      match get lo, get hi with
      | some l, some h => some (s, l, h)
      | _, _ => none
    | _, _ => none
  | _ => none
theorem mkS_cut (xs : List UInt8) (a b : Nat) : (mkS xs).extract a b = mkS ((xs.drop a).take (b - a)) := ByteArray.extract_mk xs a b
theorem qSls (a b : Nat) {xs ys : List UInt8} (lo hi : Option Int) (hl : bnd lo 0 a) (hh : bnd hi xs.length b) (h1 : a ≤ b) (h2 : b ≤ xs.length) (hys : (xs.drop a).take (b - a) = ys) (hc : slsC P sl op = some (mkS xs, lo, hi) := by kernel_rfl) : Yld P n p own sl op ty (.string (mkS ys)) := by
  subst hys
  unfold slsC at hc
  split at hc
  · rename_i t x lo' hi'
    split at hc
    · rename_i s e1 e2
      simp only at hc
      split at hc
      · rename_i l' h' e4 e5
        simp only [Option.some.injEq, Prod.mk.injEq] at hc
        obtain ⟨rfl, rfl, rfl⟩ := hc
        intro o act w g1 g2 hf hr
        have hsz : (mkS xs).size = xs.length := mkS_size xs
        cases lo' with
        | none =>
          simp only [Option.some.injEq] at e4
          subst e4
          obtain rfl : 0 = a := hl
          cases hi' with
          | none =>
            simp only [Option.some.injEq] at e5
            subst e5
            obtain rfl : xs.length = b := hh
            have := run_slice_string_all (P := P) w t (mkS xs) e2
            rw [hsz, mkS_cut] at this
            simp [execOp, g1, hf.ev e1, run_sliceAt_string (P := P) (h := e2), this]
          | some y =>
            simp only at e5
            split at e5
            · rename_i k z hz
              injection e5 with e5
              subst e5
              obtain rfl : z = (b : Int) := hh
              have := run_slice_string_h (P := P) w t (mkS xs) e2 k (b : Int) (by omega) (by rw [hsz]; omega)
              rw [Int.toNat_natCast, mkS_cut] at this
              simp [execOp, g1, hf.ev e1, hf.ev hz, run_sliceAt_string (P := P) (h := e2), this]
            · cases e5
        | some y0 =>
          simp only at e4
          split at e4
          · rename_i k0 z0 hz0
            injection e4 with e4
            subst e4
            obtain rfl : z0 = (a : Int) := hl
            cases hi' with
            | none =>
              simp only [Option.some.injEq] at e5
              subst e5
              obtain rfl : xs.length = b := hh
              have := run_slice_string_l (P := P) w t (mkS xs) e2 k0 (a : Int) (by omega) (by rw [hsz]; omega)
              rw [Int.toNat_natCast, hsz, mkS_cut] at this
              simp [execOp, g1, hf.ev e1, hf.ev hz0, run_sliceAt_string (P := P) (h := e2), this]
            | some y =>
              simp only at e5
              split at e5
              · rename_i k z hz
                injection e5 with e5
                subst e5
                obtain rfl : z = (b : Int) := hh
                have := run_slice_string (P := P) w t (mkS xs) k0 k (a : Int) (b : Int) e2 (by omega) (by omega) (by rw [hsz]; omega)
                rw [Int.toNat_natCast, Int.toNat_natCast, mkS_cut] at this
                simp [execOp, g1, hf.ev e1, hf.ev hz0, hf.ev hz, run_sliceAt_string (P := P) (h := e2), this]
              · cases e5
          · cases e4
      · cases hc
    · cases hc
  · cases hc
theorem Buf.isNone_eq {α : Type} {T : Ty α} {q : Psi} {et : TypeId} {A : Option Addr} {c : Nat} {k : Option Bk} {xs : List α} (h : Buf q T et (.slice A xs.length c) k xs) (hn : xs = [] → A = none) : A.isNone = xs.isEmpty := by
  rcases h with ⟨_, ⟨h1, h2, _⟩ | ⟨b, cap, cs, sp, h1, _⟩⟩
  · subst h2
    rw [hn rfl]; rfl
  · injection h1 with h1 _ _
    subst h1
    cases xs with
    | nil => cases hn rfl
    | cons x l => rfl
theorem qNilE (A : Option Addr) {b : Bool} (h : A.isNone = b) (hc : isnilC P sl op = some (.eql, A) := by kernel_rfl) : Yld P n p own sl op ty (.bool b) := h ▸ qNil A hc
theorem qNnilE (A : Option Addr) {b : Bool} (h : A.isNone = b) (hc : isnilC P sl op = some (.neq, A) := by kernel_rfl) : Yld P n p own sl op ty (.bool (!b)) := h ▸ qNnil A hc
/-- a call of a function without a body -/
def extC (P : Program) (sl : Sl) (op : Op) : Option (FuncId × List Value) := match op with
  | .call { callee := .value (.func f), args := args, argTypes := _ } => ((args.toList.mapM (evS sl)).map (fun l => (f, l)))
  | _ => none
def extOk (P : Program) (f : FuncId) (nm : String) : Bool := match P.funcs[f]? with
  | some fn => !(fn.name == "runtime.NumGoroutine") && fn.body.isNone && (fn.name == nm)
  | none => false
theorem mapM_evS : ∀ {l : List Operand} {vs : List Value}, l.mapM (evS sl) = some vs → l.map (evS sl) = vs.map some
  | [], vs, h => by
    simp at h
    subst h
    rfl
  | x :: l, vs, h => by
    rw [List.mapM_cons] at h
    cases hx : evS sl x with
    | none => rw [hx] at h; cases h
    | some v =>
      rw [hx] at h
      cases hl : l.mapM (evS sl) with
      | none => rw [hl] at h; cases h
      | some us =>
        rw [hl] at h
        have h : some (v :: us) = some vs := h
        injection h with h
        subst h
        rw [List.map_cons, List.map_cons, hx, mapM_evS hl]
theorem qExt {f : FuncId} {fn : Func} {vs : List Value} {v : Value} {e : Array Value → Sem Value} (hc : extC P sl op = some (f, vs)) (hf0 : P.funcs[f]? = some fn) (hname : (fn.name == "runtime.NumGoroutine") = false) (hb : fn.body.isNone = true) (hn : Extern.findNext fn = none) (he : Extern.find fn = some e)
    (hrun : ∀ w, (e vs.toArray).run P w = .ok v w) : Yld P n p own sl op ty v := by
  unfold extC at hc
  split at hc
  · rename_i f' args ats
    simp only [Option.map_eq_some_iff, Prod.mk.injEq] at hc
    obtain ⟨l, h1, rfl, rfl⟩ := hc
    intro o a w g1 g2 hf hr
    have hargs : args.map a.eval = l.toArray := by
      apply Array.toList_inj.1
      rw [Array.toList_map, hf.evs (mapM_evS h1)]
    have hcall : (callFunc f' l.toArray).run P w = .ok (.value v) w := by rw [run_callFunc_extern hf0 hname hb hn he, hrun w]; rfl
    simp [execOp, g1, resolve, Act.eval, Deferred.ofValue, invoke, hargs, hcall]
  · cases hc
/-- strings.IndexByte and what it comes to -/
theorem qXib {f : FuncId} {fn : Func} {xs : List UInt8} {c : Int} (hf0 : P.funcs[f]? = some fn) (hname : (fn.name == "runtime.NumGoroutine") = false) (hb : fn.body.isNone = true) (hn : Extern.findNext fn = none) (he : Extern.find fn = some Extern.BytealgIndexByte.indexByte) (hc : extC P sl op = some (f, [.string (mkS xs), .int .u8 c]) := by kernel_rfl) :
    Yld P n p own sl op ty (.int .i64 (Lib.indexByte xs c.toNat.toUInt8)) := qExt hc hf0 hname hb hn he (fun w => by
      have := Lib.run_indexByteString (P := P) (mkS xs) c w
      have e : (mkS xs).data.toList = xs := by simp [mkS]
      rw [e] at this
      exact this)
/-- strings.Compare and what it comes to -/
theorem qXcs {f : FuncId} {fn : Func} {xs ys : List UInt8} (hf0 : P.funcs[f]? = some fn) (hname : (fn.name == "runtime.NumGoroutine") = false) (hb : fn.body.isNone = true) (hn : Extern.findNext fn = none) (he : Extern.find fn = some Extern.BytealgCompare.compare) (hc : extC P sl op = some (f, [.string (mkS xs), .string (mkS ys)]) := by kernel_rfl) :
    Yld P n p own sl op ty (.int .i64 (Lib.compareBytes xs ys)) := qExt hc hf0 hname hb hn he (fun w => by
      have := Lib.run_compareString (P := P) (mkS xs) (mkS ys) w
      have e : (mkS xs).data.toList = xs := by simp [mkS]
      have e2 : (mkS ys).data.toList = ys := by simp [mkS]
      rw [e, e2] at this
      exact this)
end
end Go.Proofs.YthfekfebgghjhaaDoor
