/-
The second engine, part 4: operations that need a fact, calls, returns; each with its operands read off the code. Conditions: each lemma's own.
-/
import Derived.Test.YtnidomdebhekiaaGreatG3
import Derived.LoopN
namespace Go.Proofs.YtnidomdebhekiaaGreat
set_option linter.unusedVariables false
set_option linter.unusedSimpArgs false
open Go.RowKit
def binC (sl : Sl) : Op → Option (BinOp × Value × Value)
  | .binOp b _ x y _ => match evS sl x, evS sl y with
    | some u, some v => some (b, u, v)
    | _, _ => none
  | _ => none
def convC (P : Program) (sl : Sl) : Op → Option (Value × IntKind)
  | .convert s d x => match evS sl x, P.underlying s, P.underlying d with
    | some u, some _, some (.int k) => some (u, k)
    | _, _, _ => none
  | _ => none
section
variable {P : Program} {n : Nat} {p : Psi} {own : Own} {sl : Sl} {ty : TypeId} {op : Op}
theorem binC_some {b : BinOp} {u v : Value} (h : binC sl op = some (b, u, v)) : ∃ t x y t2, op = .binOp b t x y t2 ∧ evS sl x = some u ∧ evS sl y = some v := by
  unfold binC at h
  split at h
  · rename_i b' t x y t2
    split at h
    · rename_i u' v' h1 h2
      simp only [Option.some.injEq, Prod.mk.injEq] at h
      obtain ⟨rfl, rfl, rfl⟩ := h
      exact ⟨t, x, y, t2, rfl, h1, h2⟩
    · cases h
  · cases h
theorem qAdd (k : IntKind) (a b : Int) (h : k.wrap (a + b) = a + b) (hc : binC sl op = some (.add, .int k a, .int k b) := by kernel_rfl) : Yld P n p own sl op ty (.int k (a + b)) := by
  obtain ⟨t, x, y, u, rfl, h1, h2⟩ := binC_some hc
  exact y_add h1 h2 h
theorem qSub (k : IntKind) (a b : Int) (h : k.wrap (a - b) = a - b) (hc : binC sl op = some (.sub, .int k a, .int k b) := by kernel_rfl) : Yld P n p own sl op ty (.int k (a - b)) := by
  obtain ⟨t, x, y, u, rfl, h1, h2⟩ := binC_some hc
  exact y_sub h1 h2 h
theorem qQuo (k : IntKind) (a b c : Int) (h0 : b ≠ 0) (h : k.wrap (a.tdiv b) = c) (hc : binC sl op = some (.quo, .int k a, .int k b) := by kernel_rfl) : Yld P n p own sl op ty (.int k c) := by
  obtain ⟨t, x, y, u, rfl, h1, h2⟩ := binC_some hc
  exact y_quo h1 h2 h0 h
theorem qRem (k : IntKind) (a b c : Int) (h0 : b ≠ 0) (h : a.tmod b = c) (hc : binC sl op = some (.rem, .int k a, .int k b) := by kernel_rfl) : Yld P n p own sl op ty (.int k c) := by
  obtain ⟨t, x, y, u, rfl, h1, h2⟩ := binC_some hc
  exact y_rem h1 h2 h0 h
theorem qShl (k k2 : IntKind) (a b : Int) (h0 : 0 ≤ b) (hc : binC sl op = some (.shl, .int k a, .int k2 b) := by kernel_rfl) : Yld P n p own sl op ty (.int k (shlK k a b)) := by
  obtain ⟨t, x, y, u, rfl, h1, h2⟩ := binC_some hc
  exact y_shl h1 h2 h0 rfl
theorem qShr (k k2 : IntKind) (a b : Int) (h0 : 0 ≤ b) (hc : binC sl op = some (.shr, .int k a, .int k2 b) := by kernel_rfl) : Yld P n p own sl op ty (.int k (shrK k a b)) := by
  obtain ⟨t, x, y, u, rfl, h1, h2⟩ := binC_some hc
  exact y_shr h1 h2 h0 rfl
theorem qEqS (a b : List UInt8) (hc : binC sl op = some (.eql, .string (mkS a), .string (mkS b)) := by kernel_rfl) : Yld P n p own sl op ty (.bool (a == b)) := by
  obtain ⟨t, x, y, u, rfl, h1, h2⟩ := binC_some hc
  exact y_eqS h1 h2
theorem qNeS (a b : List UInt8) (hc : binC sl op = some (.neq, .string (mkS a), .string (mkS b)) := by kernel_rfl) : Yld P n p own sl op ty (.bool (!(a == b))) := by
  obtain ⟨t, x, y, u, rfl, h1, h2⟩ := binC_some hc
  exact y_neS h1 h2
def isnilC (P : Program) (sl : Sl) (op : Op) : Option (BinOp × Option Addr) := match op with
  | .binOp b t x y _ => match evS sl x, evS sl y, P.underlying t with
    | some (.slice A _ _), some (.slice none _ _), some (.slice _) => some (b, A)
    | _, _, _ => none
  | _ => none
theorem qNil (A : Option Addr) (hc : isnilC P sl op = some (.eql, A) := by kernel_rfl) : Yld P n p own sl op ty (.bool A.isNone) := by
  unfold isnilC at hc
  split at hc
  · rename_i b t x y u
    split at hc
    · rename_i A' l c l2 c2 e h1 h2 h3
      simp only [Option.some.injEq, Prod.mk.injEq] at hc
      obtain ⟨rfl, rfl⟩ := hc
      exact y_isnil h1 h2 h3
    · cases hc
  · cases hc
def eqSt (P : Program) (sl : Sl) (op : Op) : Option (BinOp × Bool) := match op with
  | .binOp b t x y _ => match evS sl x, evS sl y with
    | some (.agg xs), some (.agg ys) => if P.eqGuardType P.depth t then none else (eqOf P 9 t (.agg xs) (.agg ys)).map fun c => (b, c)
    | _, _ => none
  | _ => none
theorem qEqA (b : Bool) (hc : eqSt P sl op = some (.eql, b) := by kernel_rfl) : Yld P n p own sl op ty (.bool b) := by
  unfold eqSt at hc
  split at hc
  · rename_i b' t x y u
    split at hc
    · rename_i xs ys h1 h2
      split at hc
      · cases hc
      · rename_i hg
        simp only [Option.map_eq_some_iff, Prod.mk.injEq] at hc
        obtain ⟨c, h3, rfl, rfl⟩ := hc
        exact y_eqA h1 h2 (by simpa using hg) h3
    · cases hc
  · cases hc
theorem qConv (k k2 : IntKind) (a c : Int) (h : k2.wrap a = c) (hc : convC P sl op = some (.int k a, k2) := by kernel_rfl) : Yld P n p own sl op ty (.int k2 c) := by
  unfold convC at hc
  split at hc
  · rename_i s d x
    split at hc
    · rename_i u ds k' h1 h2 h3
      simp only [Option.some.injEq, Prod.mk.injEq] at hc
      obtain ⟨rfl, rfl⟩ := hc
      exact y_conv h1 (by simp [h2]) h3 h
    · cases hc
  · cases hc
def strC (P : Program) (sl : Sl) (op : Op) : Option (Option Addr × Nat) := match op with
  | .convert s d x => match evS sl x, P.underlying s, P.underlying d with
    | some (.slice A l _), some (.slice e), some .string => match P.underlying e with
      | some (.int .u8) => some (A, l)
      | _ => none
    | _, _, _ => none
  | _ => none
theorem strC_some {A : Option Addr} {l : Nat} (h : strC P sl op = some (A, l)) : ∃ s d e x c, op = .convert s d x ∧ evS sl x = some (.slice A l c) ∧ P.underlying s = some (.slice e) ∧ P.underlying e = some (.int .u8) ∧ P.underlying d = some .string := by
  unfold strC at h
  split at h
  · rename_i s d x
    split at h
    · rename_i A' l' c e h1 h2 h3
      split at h
      · rename_i h4
        simp only [Option.some.injEq, Prod.mk.injEq] at h
        obtain ⟨rfl, rfl⟩ := h
        exact ⟨s, d, e, x, c, rfl, h1, h2, h4, h3⟩
      · cases h
    · cases h
  · cases h
theorem Arr.recap {α : Type} {T : Ty α} {A : Option Addr} {c c' : Nat} {xs : List α} (h : Arr p T A c xs) (hc : xs.length ≤ c') : Arr p T A c' xs := ⟨hc, h.len, h.row⟩
theorem qStr {A : Option Addr} {c : Nat} {l : List UInt8} (h : Arr p tyU8 A c l) (hc : strC P sl op = some (A, l.length) := by kernel_rfl) : Yld P n p own sl op ty (.string (mkS l)) := by
  obtain ⟨s, d, e, x, c', rfl, h1, h2, h3, h4⟩ := strC_some hc
  intro o a w g1 g2 hf hr
  have h5 := run_str_of (P := P) hr.r (h.recap (Nat.le_refl _)) h2 h3 h4
  have h6 : ∀ c1 c2 : Nat, (convert s d (.slice A l.length c1)).run P w = (convert s d (.slice A l.length c2)).run P w := fun c1 c2 => by
    rw [run_convert_bytes_string w s d e _ _ _ h2 h3 h4, run_convert_bytes_string w s d e _ _ _ h2 h3 h4]
    cases A <;> rfl
  rw [h6 _ c'] at h5
  simp [execOp, g1, hf.ev h1, h5]
def ixC (P : Program) (sl : Sl) (op : Op) : Option (Option Addr × Nat × Int × Nat) := match op with
  | .indexAddr t x i => match evS sl x, evS sl i, P.underlying t with
    | some (.slice A l _), some (.int _ z), some (.slice e) => (cellsOfT P e).map fun m => (A, l, z, m)
    | _, _, _ => none
  | _ => none
theorem ixC_some {A : Option Addr} {l m : Nat} {z : Int} (h : ixC P sl op = some (A, l, z, m)) : ∃ t x i e c k, op = .indexAddr t x i ∧ evS sl x = some (.slice A l c) ∧ evS sl i = some (.int k z) ∧ P.underlying t = some (.slice e) ∧ cellsOfT P e = some m := by
  unfold ixC at h
  split at h
  · rename_i t x i
    split at h
    · rename_i A' l' c k z' e h1 h2 h3
      simp only [Option.map_eq_some_iff, Prod.mk.injEq] at h
      obtain ⟨m', h4, rfl, rfl, rfl, rfl⟩ := h
      exact ⟨t, x, i, e, c, k, rfl, h1, h2, h3, h4⟩
    · cases h
  · cases h
theorem qIx (idx m : Nat) {A : Addr} {A0 : Option Addr} {len : Nat} {z : Int} (hA : A0 = some A) (hz : z = (idx : Int)) (hlt : idx < len) (hc : ixC P sl op = some (A0, len, z, m) := by kernel_rfl) : Yld P n p own sl op ty (.pointer (some (A.add (idx * m)))) := by
  obtain ⟨t, x, i, e, c, k, rfl, h1, h2, h3, h4⟩ := ixC_some hc
  exact q_index idx hA h1 h2 hz hlt h3 h4
theorem qIxB (idx m b : Nat) {A0 : Option Addr} {len : Nat} {z : Int} (hA : A0 = some ⟨b, 0, none⟩) (hz : z = (idx : Int)) (hlt : idx < len) (hc : ixC P sl op = some (A0, len, z, m) := by kernel_rfl) : Yld P n p own sl op ty (.pointer (some ⟨b, idx * m + 0, none⟩)) := by
  obtain ⟨t, x, i, e, c, k, rfl, h1, h2, h3, h4⟩ := ixC_some hc
  exact q_indexB idx b hA h1 h2 hz hlt h3 h4
def ldC (sl : Sl) (op : Op) : Option (TypeId × Option Addr) := match op with
  | .load t x => match evS sl x with
    | some (.pointer A) => some (t, A)
    | _ => none
  | _ => none
theorem ldC_some {t : TypeId} {A : Option Addr} (h : ldC sl op = some (t, A)) : ∃ x, op = .load t x ∧ evS sl x = some (.pointer A) := by
  unfold ldC at h
  split at h
  · split at h
    · rename_i A' h1
      simp only [Option.some.injEq, Prod.mk.injEq] at h
      obtain ⟨rfl, rfl⟩ := h
      exact ⟨_, rfl, h1⟩
    · cases h
  · cases h
def ldT (op : Op) : TypeId := match op with | .load t _ => t | _ => 0
def cellV (P : Program) (t : TypeId) (cs : List Value) (off : Nat) : Value := match aggOf P t with
  | some m => .agg ((cs.drop off).take m).toArray
  | none => (cs[off]?).getD undef
def cellOk (P : Program) (t : TypeId) (cs : List Value) (off : Nat) : Bool := match aggOf P t with
  | some m => Nat.ble (off + m) cs.length
  | none => flatOf P t && (cs[off]?).isSome
theorem cellOk_cases {t : TypeId} {cs : List Value} {off : Nat} (h : cellOk P t cs off = true) : (∃ m, aggOf P t = some m ∧ off + m ≤ cs.length ∧ cellV P t cs off = .agg ((cs.drop off).take m).toArray) ∨ (flatOf P t = true ∧ cs[off]? = some (cellV P t cs off)) := by
  unfold cellOk at h
  unfold cellV
  cases e : aggOf P t with
  | some m =>
    rw [e] at h
    exact .inl ⟨m, rfl, by simpa using h, rfl⟩
  | none =>
    rw [e] at h
    simp only [Bool.and_eq_true] at h
    obtain ⟨v, hv⟩ := Option.isSome_iff_exists.1 h.2
    exact .inr ⟨h.1, by simp [hv]⟩
theorem qLdP (A : Addr) (off : Nat) {cs : List Value} (hc : Cells p A cs) (h1 : ldC sl op = some (ldT op, some (A.add off)) := by kernel_rfl) (h2 : cellOk P (ldT op) cs off = true := by kernel_rfl) : Yld P n p own sl op ty (cellV P (ldT op) cs off) := by
  obtain ⟨x, e, hx⟩ := ldC_some h1
  generalize ldT op = t at e h2
  subst e
  rcases cellOk_cases h2 with ⟨m, h3, h4, h5⟩ | ⟨h3, h4⟩
  · have hl : ((cs.drop off).take m).length = m := by rw [List.length_take, List.length_drop]; omega
    rw [h5]
    exact y_loadPA off hx hc (by rw [hl]; exact h3) (by rw [hl])
  · exact y_loadP1 off hx hc h3 h4
theorem qLdB (i m off io : Nat) {kb : Bk} {cs : List Value} (hr : (kb.cs.drop (i * m)).take m = cs) (h1 : ldC sl op = some (ldT op, some ⟨kb.g, i * m + off, none⟩) := by kernel_rfl) (hi : own[io]? = some (some kb) := by kernel_rfl) (h2 : cellOk P (ldT op) cs off = true := by kernel_rfl) : Yld P n p own sl op ty (cellV P (ldT op) cs off) := by
  obtain ⟨x, e, hx⟩ := ldC_some h1
  generalize ldT op = t at e h2
  subst e
  rcases cellOk_cases h2 with ⟨k, h3, h4, h5⟩ | ⟨h3, h4⟩
  · have hl : ((cs.drop off).take k).length = k := by rw [List.length_take, List.length_drop]; omega
    rw [h5]
    exact y_loadBA i m off io _ hx hi hr (by rw [hl]; exact h3) (by rw [hl])
  · exact y_loadB1 i m off io hx hi hr h3 h4
def slC (P : Program) (sl : Sl) (op : Op) : Option (Option Addr × Nat × Nat × Option Int × Option Int × Nat) := match op with
  | .slice t x lo hi none => match evS sl x, P.underlying t with
    | some (.slice A len c), some (.slice e) => match cellsOfT P e with
      | some m =>
        let get : Option Operand → Option (Option Int) := fun y => match y with
          | none => some none
          | some y => match evS sl y with
            | some (.int _ z) => some (some z)
            | _ => none
        match get lo, get hi with
        | some l, some h => some (A, len, c, l, h, m)
        | _, _ => none
      | none => none
    | _, _ => none
  | _ => none
def bnd (o : Option Int) (d : Nat) (l : Nat) : Prop := match o with | none => d = l | some z => z = (l : Int)
theorem qSl (l h : Nat) {m : Nat} {A : Option Addr} {len c : Nat} (lo hi : Option Int) (r : Nat) (hl : bnd lo 0 l) (hh : bnd hi len h) (h1 : l ≤ h) (h2 : h ≤ c) (hm : h - l = r) (hc : slC P sl op = some (A, len, c, lo, hi, m) := by kernel_rfl) : Yld P n p own sl op ty (.slice (offA A c l m) r (c - l)) := by
  unfold slC at hc
  split at hc
  · rename_i t x lo' hi'
    split at hc
    · rename_i A' len' c' e e1 e2
      split at hc
      · rename_i m' e3
        simp only at hc
        split at hc
        · rename_i l' h' e4 e5
          simp only [Option.some.injEq, Prod.mk.injEq] at hc
          obtain ⟨rfl, rfl, rfl, rfl, rfl, rfl⟩ := hc
          refine y_slice l h r e1 e2 e3 ?_ ?_ h1 h2 hm
          · cases lo' with
            | none =>
              simp only [Option.some.injEq] at e4
              subst e4
              exact .inl ⟨rfl, (show 0 = l from hl).symm⟩
            | some y =>
              simp only at e4
              split at e4
              · rename_i k z hz
                injection e4 with e4
                subst e4
                have hl : z = (l : Int) := hl
                subst hl
                exact .inr ⟨k, y, rfl, hz⟩
              · cases e4
          · cases hi' with
            | none =>
              simp only [Option.some.injEq] at e5
              subst e5
              exact .inl ⟨rfl, (show len' = h from hh).symm⟩
            | some y =>
              simp only at e5
              split at e5
              · rename_i k z hz
                injection e5 with e5
                subst e5
                have hh : z = (h : Int) := hh
                subst hh
                exact .inr ⟨k, y, rfl, hz⟩
              · cases e5
        · cases hc
      · cases hc
    · cases hc
  · cases hc
end
section
variable {P : Program} {n : Nat} {g : Gh} {own : Own} {sl : Sl} {ty : TypeId} {op : Op} {p : Psi} {α : Type} {T : Ty α}
def boxC (P : Program) (sl : Sl) (op : Op) : Option (TypeId × List Value) := match op with
  | .box t x => (evS sl x).map fun v => (t, v.cells.toList)
  | .alloc t => (zeroOf P t).map fun z => (t, z.toList)
  | _ => none
theorem eBox {t : TypeId} {cs : List Value} (hc : boxC P sl op = some (t, cs)) : Eff P n g own sl op ty (fun v' g' own' => ∃ b, v' = .pointer (some ⟨b, 0, none⟩) ∧ g = g' ∧ own' = some ⟨b, t, cs⟩ :: own) := by
  unfold boxC at hc
  split at hc
  · simp only [Option.map_eq_some_iff, Prod.mk.injEq] at hc
    obtain ⟨v, h1, rfl, rfl⟩ := hc
    exact e_box h1 (by simp)
  · simp only [Option.map_eq_some_iff, Prod.mk.injEq] at hc
    obtain ⟨z, h1, rfl, rfl⟩ := hc
    exact e_alloc (by simpa using h1)
  · cases hc
theorem eB (hc : boxC P sl op = some (((boxC P sl op).map Prod.fst).getD 0, ((boxC P sl op).map Prod.snd).getD []) := by kernel_rfl) : Eff P n g own sl op ty (fun v' g' own' => ∃ b, v' = .pointer (some ⟨b, 0, none⟩) ∧ g = g' ∧ own' = some ⟨b, ((boxC P sl op).map Prod.fst).getD 0, ((boxC P sl op).map Prod.snd).getD []⟩ :: own) := eBox hc
def allS {β : Type} : List (Option β) → Option (List β)
  | [] => some []
  | o :: l => match o, allS l with
    | some v, some r => some (v :: r)
    | _, _ => none
theorem foldr_some {β : Type} : ∀ {l : List (Option β)} {vs : List β}, allS l = some vs → l = vs.map some
  | [], vs, h => by injection h with h; subst h; rfl
  | o :: l, vs, h => by
    unfold allS at h
    split at h
    · rename_i v r hl
      injection h with h
      subst h
      rw [foldr_some hl]
      rfl
    · cases h
def callC (sl : Sl) (op : Op) : Option (FuncId × List Value) := match op with
  | .call { callee := .value (.func f), args := args, argTypes := _ } => (allS (args.toList.map (evS sl))).map fun l => (f, l)
  | .call { callee := .value x, args := args, argTypes := _ } => match evS sl x with
    | some (.func (.func f) ⟨[]⟩ caps) => (allS (args.toList.map (evS sl))).map fun l => (f, l ++ caps.toList)
    | _ => none
  | _ => none
def trues : Nat → List Bool
  | 0 => []
  | m + 1 => true :: trues m
theorem pick_trues : ∀ (m : Nat) (l : Own), pickM (trues m) l = l.take m
  | 0, l => by simp [trues, pickM]
  | m + 1, [] => rfl
  | m + 1, x :: l => by simp [trues, pickM, pick_trues m l]
theorem rest_trues : ∀ (m : Nat) (l : Own), restM (trues m) l = l.drop m
  | 0, l => by cases l <;> rfl
  | m + 1, [] => rfl
  | m + 1, x :: l => by simp [trues, restM, rest_trues m l]
theorem join_trues : ∀ (m : Nat) (a b : Own), (joinM (trues m) a b) = a.take m ++ (if m ≤ a.length then a.drop m else []) ++ b
  | 0, a, b => by simp [trues, joinM]
  | m + 1, [], b => by
    have := join_trues m [] b
    simp [trues, joinM] at this ⊢
    exact this
  | m + 1, x :: a, b => by
    have := join_trues m a b
    simp only [trues, joinM, this, List.take_succ_cons, List.cons_append, List.length_cons, Nat.add_le_add_iff_right, List.drop_succ_cons]
theorem join_trues' (m : Nat) (a b : Own) : joinM (trues m) a b = a ++ b := by
  rw [join_trues]
  by_cases h : m ≤ a.length
  · rw [if_pos h, List.take_append_drop]
  · rw [if_neg h, List.append_nil, List.take_of_length_le (by omega)]
theorem eC {f : FuncId} {vs : List Value} {sel : Own} {post : Value → Psi → Own → Prop} (m : Nat)
    (hc : ∀ g', g.r.le g'.r → g'.b = g.b → (∀ k, some k ∈ own.drop m → g'.r.m k.g = some k.obj) → Ctr P f vs g' sel post)
    (ho : callC sl op = some (f, vs) := by kernel_rfl) (he : enters P f = true := by kernel_rfl) (hs : own.take m = sel := by kernel_rfl) :
    Eff P n g own sl op ty (fun v g' own' => ∃ sel', own' = sel' ++ own.drop m ∧ post v g'.b sel') := by
  have key : ∀ {x : Operand} {args : Array Operand} {ats : Array TypeId} {R : Value → Gh → Own → Prop}, Eff P n g own sl (.call { callee := .value x, args := args, argTypes := ats }) ty (fun v g' own' => ∃ sel', own' = joinM (trues m) sel' (restM (trues m) own) ∧ post v g'.b sel') →
      Eff P n g own sl (.call { callee := .value x, args := args, argTypes := ats }) ty (fun v g' own' => ∃ sel', own' = sel' ++ own.drop m ∧ post v g'.b sel') := by
    intro x args ats R h o a w Q K h1 h2 hf hst hk
    refine h o a w Q K h1 h2 hf hst fun v g' own' w' hle hs' ⟨sel', e, hp⟩ => ?_
    rw [join_trues', rest_trues] at e
    exact hk v g' own' w' hle hs' ⟨sel', e, hp⟩
  unfold callC at ho
  split at ho
  · rename_i f' args ats
    simp only [Option.map_eq_some_iff, Prod.mk.injEq] at ho
    obtain ⟨l, h1, rfl, rfl⟩ := ho
    exact key (R := fun _ _ _ => True) (e_callM (sel := sel) l (trues m) he (foldr_some h1) (by rw [pick_trues]; exact hs) (by rw [rest_trues]; exact hc))
  · rename_i x args ats _
    split at ho
    · rename_i f' caps hx
      simp only [Option.map_eq_some_iff, Prod.mk.injEq] at ho
      obtain ⟨l, h1, rfl, rfl⟩ := ho
      refine key (R := fun _ _ _ => True) (e_callC (sel := sel) caps (l ++ caps.toList) (trues m) he hx ?_ (by rw [pick_trues]; exact hs) (by rw [rest_trues]; exact hc))
      rw [foldr_some h1, List.map_append]
    · cases ho
  · cases ho
def appC (P : Program) (sl : Sl) (op : Op) : Option (Value × Option Addr × Nat × TypeId × Nat × Nat) := match op with
  | .call { callee := .builtin .append, args := ⟨[s, x]⟩, argTypes := ⟨[t, t2]⟩ } => match evS sl s, evS sl x, P.underlying t with
    | some v, some (.slice A m _), some (.slice et) => if t = t2 then (appT P t et).map fun q => (v, A, m, et, q.1, q.2) else none
    | _, _, _ => none
  | _ => none
theorem eApp {et : TypeId} {bytes : Nat} (i : Nat) {v : Value} {k : Option Bk} {xs : List α} {A : Option Addr} {m : Nat} {ys : List α} {news : List Value} (hb : Buf p T et v k xs) (hm : m = ys.length) (hsrc : ∀ w, St w g own → Src w A m news) (hrep : Reps T p news ys)
    (hlen : xs.length + ys.length ≤ 140737488355328) (hbytes : (xs.length + ys.length) * bytes ≤ 140737488355328) (hc : appC P sl op = some (v, A, m, et, T.n, bytes) := by kernel_rfl) (hi : own[i]? = some k := by kernel_rfl) :
    Eff P n g own sl op ty (fun v' g' own' => ∃ A' c' k', v' = .slice A' (xs ++ ys).length c' ∧ g = g' ∧ own' = own.set i k' ∧ Buf p T et (.slice A' (xs ++ ys).length c') k' (xs ++ ys)) := by
  unfold appC at hc
  split at hc
  · rename_i s x t t2
    split at hc
    · rename_i v' A' m' c' et' h1 h2 h3
      split at hc
      · rename_i ht
        subst ht
        simp only [Option.map_eq_some_iff, Prod.mk.injEq] at hc
        obtain ⟨q, h4, rfl, rfl, rfl, rfl, h5, h6⟩ := hc
        exact e_append i p news (by rw [h4, ← h5, ← h6]) h1 h2 hi hb hm hsrc hrep hlen hbytes
      · cases hc
    · cases hc
  · cases hc
theorem Buf.re {et : TypeId} {A : Option Addr} {l l' c : Nat} {k : Option Bk} {xs ys : List α} (h : Buf p T et (.slice A l c) k xs) (e : l = l') (e2 : xs = ys) : Buf p T et (.slice A l' c) k ys := by subst e; subst e2; exact h
def mkC (P : Program) (sl : Sl) (op : Op) : Option (Int × Int × TypeId × Nat × Nat × List Value) := match op with
  | .makeSlice t x y => match evS sl x, evS sl y, P.underlying t with
    | some (.int _ a), some (.int _ b), some (.slice et) => match appT P t et, zeroOf P et with
      | some q, some z => some (a, b, et, q.1, q.2, z.toList)
      | _, _ => none
    | _, _, _ => none
  | _ => none
theorem eMk {et : TypeId} {bytes : Nat} (m : Nat) {a : Int} {zs : List Value} {z : α} (ha : a = (m : Int)) (hr : T.rep p zs z) (hbytes : bytes * m ≤ 281474976710656) (hm : m ≤ 140737488355328) (hc : mkC P sl op = some (a, a, et, T.n, bytes, zs) := by kernel_rfl) :
    Eff P n g own sl op ty (fun v' g' own' => ∃ A c k, v' = .slice A (List.replicate m z).length c ∧ g = g' ∧ own' = k :: own ∧ Buf p T et (.slice A (List.replicate m z).length c) k (List.replicate m z)) := by
  subst ha
  unfold mkC at hc
  split at hc
  · rename_i t x y
    split at hc
    · rename_i k1 a' k2 b' et' h1 h2 h3
      split at hc
      · rename_i q z' h4 h5
        simp only [Option.some.injEq, Prod.mk.injEq] at hc
        obtain ⟨rfl, rfl, rfl, h6, h7, rfl⟩ := hc
        intro o a w Q K e1 e2 hf hs h
        refine e_make (T := T) (p := p) (et := et') (bytes := bytes) m (by rw [h4, ← h6, ← h7]) h1 h2 (by simpa using h5) hr hbytes hm o a w Q K e1 e2 hf hs fun v' g' own' w' hle hs' ⟨b, cs, q1, q2, q3, _, q4⟩ => ?_
        exact h v' g' own' w' hle hs' ⟨some ⟨b, 0, none⟩, m, some ⟨b, et', cs⟩, by rw [List.length_replicate]; exact q1, q2, q3, by rw [List.length_replicate]; exact q4⟩
      · cases hc
    · cases hc
  · cases hc
def bsC (P : Program) (sl : Sl) (op : Op) : Option (Nat × TypeId × List Value) := match op with
  | .buildSlice t len parts => match allS (parts.toList.map fun q => (evS sl q.2).map fun v => (q.1, v)) with
    | some pv => (buildRow P t len pv).map fun q => (len, q.1, q.2.toList)
    | none => none
  | _ => none
theorem eBs {et : TypeId} {cs : List Value} {xs : List α} (hr : Reps T p cs xs) (hm : xs.length ≤ 140737488355328) (hc : bsC P sl op = some (xs.length, et, cs) := by kernel_rfl) :
    Eff P n g own sl op ty (fun v' g' own' => ∃ A c k, v' = .slice A xs.length c ∧ g = g' ∧ own' = k :: own ∧ Buf p T et (.slice A xs.length c) k xs) := by
  unfold bsC at hc
  split at hc
  · rename_i t len parts
    split at hc
    · rename_i pv hpv
      simp only [Option.map_eq_some_iff, Prod.mk.injEq] at hc
      obtain ⟨q, h1, h2, rfl, rfl⟩ := hc
      intro o a w Q K e1 e2 hf hs h
      refine e_buildSlice (et := q.1) pv q.2.toList (foldr_some hpv) (by simpa using h1) o a w Q K e1 e2 hf hs fun v' g' own' w' hle hs' ⟨b, q1, q2, q3⟩ => ?_
      subst h2
      exact h v' g' own' w' hle hs' ⟨_, _, _, q1, q2, q3, buf_lit hr rfl hm⟩
    · cases hc
  · cases hc
def stC (P : Program) (sl : Sl) (op : Op) : Option (Option Addr × List Value) := match op with
  | .store t x y => match evS sl x, evS sl y with
    | some (.pointer A), some v => if cellsOfT P t = some v.cells.toList.length then some (A, v.cells.toList) else none
    | _, _ => none
  | _ => none
theorem eStB (i m off io : Nat) (vs : List Value) {et : TypeId} {A : Option Addr} {l c : Nat} {kb : Bk} {cs : List Value} {xs : List α} {u : α} (hb : Buf p T et (.slice A l c) (some kb) xs) (hm : m = T.n) (hr : (kb.cs.drop (i * m)).take m = cs) (hu : T.rep p (setRow cs off vs) u) (hlt : i < xs.length)
    (hc : stC P sl op = some (some ⟨kb.g, i * m + off, none⟩, vs) := by kernel_rfl) (hi : own[io]? = some (some kb) := by kernel_rfl) (h1 : vs.all one1 = true := by kernel_rfl) (ho : Nat.ble (off + vs.length) T.n = true := by kernel_rfl) :
    Eff P n g own sl op ty (fun v' g' own' => ∃ k', g = g' ∧ own' = own.set io k' ∧ Buf p T et (.slice A l c) k' (xs.set i u)) := by
  unfold stC at hc
  split at hc
  · rename_i t x y
    split at hc
    · rename_i A' v e1 e2
      split at hc
      · rename_i h3
        simp only [Option.some.injEq, Prod.mk.injEq] at hc
        obtain ⟨rfl, rfl⟩ := hc
        exact e_storeB i m off io v v.cells.toList xs u e1 e2 hi (by simp) h3 h1 hb hm hr hu ho hlt
      · cases hc
    · cases hc
  · cases hc
def Row (p : Psi) (T : Ty α) (et : TypeId) (b : Nat) (N : Nat) (k : Option Bk) (xs : List α) : Prop := ∃ cs, k = some ⟨b, et, cs⟩ ∧ Reps T p cs xs ∧ xs.length = N
theorem Row.mono {et : TypeId} {b N : Nat} {k : Option Bk} {xs : List α} {q : Psi} (h : Row p T et b N k xs) (hl : p.le q) : Row q T et b N k xs := by
  obtain ⟨cs, h1, h2, h3⟩ := h
  exact ⟨cs, h1, h2.mono hl, h3⟩
theorem Row.open_ {et : TypeId} {b N : Nat} {k : Option Bk} {xs : List α} (h : Row p T et b N k xs) {i : Nat} (hi : i < N) (d : α) : ∃ kb cs, b = kb.g ∧ k = some kb ∧ i < xs.length ∧ T.rep p cs (xs.getD i d) ∧ (kb.cs.drop (i * T.n)).take T.n = cs := by
  obtain ⟨cs, h1, h2, h3⟩ := h
  have hx : xs[i]? = some (xs.getD i d) := by rw [List.getD_eq_getElem?_getD, List.getElem?_eq_getElem (by omega)]; rfl
  exact ⟨_, _, rfl, h1, by omega, h2.at_ hx, rfl⟩
end
section
variable {P : Program} {Q : Exit → Act → World → Prop} {n : Nat} {g g0 : Gh} {own : Own} {sl : Sl} {C : Code} {pth : List Nat}
theorem xFn {f : FuncId} {vs : List Value} {post : Value → Psi → Own → Prop} (fn : Func) (C : Code) (n : Nat) (h : WPc P (subR C []) (Fin P fn g post) n g own (argS 0 vs)) (hf : P.funcs[f]? = some fn := by kernel_rfl) (hb : fn.body = some C := by kernel_rfl) (hn : fn.ntmps = n := by kernel_rfl) (hl : Nat.ble vs.length n = true := by kernel_rfl) : Ctr P f vs g own post :=
  ctr_of fn C n vs hf hb hn hl h
theorem res_tmps : ∀ {ts : List Tmp}, (ts.all fun t => (getS sl t).isSome) = true → ResOk P own sl (ts.map ResultVar.tmp) (ts.map fun t => (getS sl t).getD undef)
  | [], _ => res_nil
  | t :: ts, h => by
    simp only [List.all_cons, Bool.and_eq_true] at h
    obtain ⟨v, hv⟩ := Option.isSome_iff_exists.1 h.1
    have := res_tmps h.2
    simp only [List.map_cons]
    rw [hv]
    exact res_tmp hv this
theorem xRet {fn : Func} {post : Value → Psi → Own → Prop} (is : List (Option Nat)) (ts : List Tmp) (hle : g0.le g) (hp : post (tupled (ts.map fun t => (getS sl t).getD undef)) g.b (pickP is own)) (hq : ∀ a w, Fin P fn g0 post .ret a w → Q .ret a w)
    (hr : fn.results = (ts.map ResultVar.tmp).toArray := by kernel_rfl) (hd : (ts.all fun t => (getS sl t).isSome) = true := by kernel_rfl) (hn : decide (is.filterMap id).Nodup = true := by kernel_rfl) (h : kindC (subR C pth) = 8 := by kernel_rfl) : WPc P (subR C pth) Q n g own sl := by
  generalize subR C pth = c at h
  cases c <;> (try (revert h; simp [kindC]; done))
  · rename_i i ops d
    cases d <;> simp [kindC] at h
  · exact wpc_ret (rs := ts.map ResultVar.tmp) _ (pickP is own) rfl hq hr (res_tmps hd) hle (keepP is hn rfl) hp
theorem xFin {fn : Func} {post : Value → Psi → Own → Prop} (is : List (Option Nat)) (ts : List Tmp) (hle : g0.le g) (hp : post (tupled (ts.map fun t => (getS sl t).getD undef)) g.b (pickP is own))
    (hr : fn.results = (ts.map ResultVar.tmp).toArray := by kernel_rfl) (hd : (ts.all fun t => (getS sl t).isSome) = true := by kernel_rfl) (hn : decide (is.filterMap id).Nodup = true := by kernel_rfl) : WPq (Fin P fn g0 post .normal) n g own sl :=
  wpq_fin (rs := ts.map ResultVar.tmp) _ (pickP is own) hr (res_tmps hd) hle (keepP is hn rfl) hp
def resC (P : Program) (own : Own) (sl : Sl) (hs : List (Nat × Nat)) : List ResultVar → List Value
  | [] => []
  | .tmp t :: rs => (getS sl t).getD undef :: resC P own sl hs rs
  | .cell x t :: rs => (match getS sl x, hintOf hs x with
    | some (.pointer (some ⟨_, off, none⟩)), some io => (ownLoad P own io t off).getD undef
    | _, _ => undef) :: resC P own sl hs rs
def resCok (P : Program) (own : Own) (sl : Sl) (hs : List (Nat × Nat)) : List ResultVar → Bool
  | [] => true
  | .tmp t :: rs => (getS sl t).isSome && resCok P own sl hs rs
  | .cell x t :: rs => (match getS sl x, hintOf hs x with
    | some (.pointer (some ⟨_, off, none⟩)), some io => (ownLoad P own io t off).isSome
    | _, _ => false) && resCok P own sl hs rs
def resCid (own : Own) (sl : Sl) (hs : List (Nat × Nat)) : List ResultVar → List (Nat × Nat)
  | [] => []
  | .tmp t :: rs => resCid own sl hs rs
  | .cell x t :: rs => (match getS sl x, hintOf hs x with
    | some (.pointer (some ⟨g, _, _⟩)), some io => match own[io]? with
      | some (some k) => [(k.g, g)]
      | _ => []
    | _, _ => []) ++ resCid own sl hs rs
theorem res_cells {hs : List (Nat × Nat)} : ∀ {rs : List ResultVar}, resCok P own sl hs rs = true → (∀ q ∈ resCid own sl hs rs, q.1 = q.2) → ResOk P own sl rs (resC P own sl hs rs)
  | [], _, _ => res_nil
  | .tmp t :: rs, h, hi => by
    simp only [resCok, Bool.and_eq_true] at h
    obtain ⟨v, hv⟩ := Option.isSome_iff_exists.1 h.1
    simp only [resC]
    rw [hv]
    exact res_tmp hv (res_cells h.2 hi)
  | .cell x t :: rs, h, hi => by
    simp only [resCok, Bool.and_eq_true] at h
    have ih := res_cells h.2 fun q hq => hi q (List.mem_append_right _ hq)
    have h1 := h.1
    simp only [resC]
    split at h1
    · rename_i b off io e1 e2
      obtain ⟨v, hv⟩ := Option.isSome_iff_exists.1 h1
      rw [hv]
      have hid : ∀ k, own[io]? = some (some k) → k.g = b := fun k hk => hi (k.g, b) (List.mem_append_left _ (by simp [e1, e2, hk]))
      simp only [Option.getD_some]
      unfold ownLoad at hv
      split at hv
      · rename_i k hk
        split at hv
        · rename_i m hm
          split at hv
          · rename_i hle
            injection hv with hv
            subst hv
            have hle : off + m ≤ k.cs.length := by simpa using hle
            have hl : ((k.cs.drop off).take m).length = m := by rw [List.length_take, List.length_drop]; omega
            exact res_cellA e1 hk (hid k hk) (by rw [hl]; exact hm) (by rw [hl]) ih
          · cases hv
        · split at hv
          · rename_i hf
            exact res_cell1 e1 hk (hid k hk) hf hv ih
          · cases hv
      · cases hv
    · cases h1
theorem xRetC {fn : Func} {post : Value → Psi → Own → Prop} (is : List (Option Nat)) (hs : List (Nat × Nat)) (hle : g0.le g) (hp : post (tupled (resC P own sl hs fn.results.toList)) g.b (pickP is own)) (hq : ∀ a w, Fin P fn g0 post .ret a w → Q .ret a w)
    (hd : resCok P own sl hs fn.results.toList = true := by kernel_rfl) (hi : (resCid own sl hs fn.results.toList).map Prod.fst = (resCid own sl hs fn.results.toList).map Prod.snd := by kernel_rfl) (hn : decide (is.filterMap id).Nodup = true := by kernel_rfl) (h : kindC (subR C pth) = 8 := by kernel_rfl) : WPc P (subR C pth) Q n g own sl := by
  generalize subR C pth = c at h
  cases c <;> (try (revert h; simp [kindC]; done))
  · rename_i i ops d
    cases d <;> simp [kindC] at h
  · exact wpc_ret (rs := fn.results.toList) _ (pickP is own) rfl hq (by simp) (res_cells hd (ids_eq hi)) hle (keepP is hn rfl) hp
end
section
variable {P : Program} {Q : Exit → Act → World → Prop} {n : Nat} {g : Gh} {own : Own} {sl : Sl} {C c : Code} {p : List Nat}
theorem xUn (N : Nat) (k : WPq (Code.rounds P (subR C (0 :: p)) Q N) n g own sl) (h : kindC (subR C p) = 6 := by kernel_rfl) : WPc P (subR C p) Q n g own sl := by
  have e0 : subR C (0 :: p) = child (subR C p) 0 := rfl
  rw [e0] at k
  generalize subR C p = c at h k
  cases c <;> (try (revert h; simp [kindC]; done))
  · rename_i i ops d
    cases d <;> simp [kindC] at h
  · exact fun a w hf hs => wp_loop_rounds N (k a w hf hs)
theorem xRd {m : Nat} (k : WPc P c (Exit.then (Code.rounds P c Q m) Q) n g own sl) : WPq (Code.rounds P c Q (m + 1)) n g own sl := k
end
section
variable {n : Nat} {g : Gh} {own : Own} {sl : Sl} {p : Psi} {α : Type} {T : Ty α}
end
section
variable {P : Program} {n : Nat} {p : Psi} {own : Own} {sl : Sl} {ty : TypeId} {op : Op}
def pnilC (P : Program) (sl : Sl) (op : Op) : Option (BinOp × Value) := match op with
  | .binOp b t x y _ => match evS sl x, evS sl y, P.underlying t with
    | some v, some (.pointer none), some (.pointer _) => some (b, v)
    | _, _, _ => none
  | _ => none
end
theorem grd_pos {ρ : Type} {b : Bool} {x : Option ρ} (h : b = true) : grd b x = x := by subst h; rfl
theorem law_of_ctr' {P : Program} {f : FuncId} {args : List Value} {w : World} (h : Ctr P f args (gh0 w) [] (fun v ψ o => v = Value.bool true ∧ o = [])) : Calls P f args.toArray w fun e w' => e = .returned (.bool true) ∧ Below w.heap.size w w' :=
  law_of_ctr (Ctr.mono h fun v p o _ hp => ⟨hp.2, hp.1⟩)
end Go.Proofs.YtnidomdebhekiaaGreat
