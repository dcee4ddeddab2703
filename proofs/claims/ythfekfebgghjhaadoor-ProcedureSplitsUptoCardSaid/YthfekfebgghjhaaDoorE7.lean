/-
The engine, part 7: the rules as the printing program uses them: each side condition a closed equation. Conditions: each lemma's own.
-/
import Derived.Test.YthfekfebgghjhaaDoorE6
namespace Go.Proofs.YthfekfebgghjhaaDoor
set_option linter.unusedVariables false
set_option linter.unusedSimpArgs false
open Go.RowKit
section
variable {P : Program} {ops : Array Oper} {Q : Exit → Act → World → Prop} {n : Nat} {g : Gh} {own : Own} {sl : Sl} {ty : TypeId} {p : Psi}
theorem Skips.undef_ {i : Nat} {dst : Option Tmp} {j t : Nat} {b : Bool} (h : dgAt ops i = some (dst, some (j, b))) (hj : dstAt ops j = some t) (hb : getS sl t = some undef) : Skips ops i sl dst := by
  unfold dgAt at h
  cases e : ops[i]? with
  | none => rw [e] at h; cases h
  | some o =>
    rw [e] at h
    simp at h
    refine ⟨o, e, h.1, fun n a hf => ?_⟩
    have h1 := hf.at_ t _ hb
    unfold dstAt at hj
    have : yielded ops a.tmps j = none := by
      unfold yielded
      rw [hj]
      simp [h1, undef]
    simp [Region.wanted, h.2, this]
/-! ### the ways of '&&' and '||' meet -/
theorem wpr_grp {i : Nat} (j : Nat) (sl' : Sl) (hk : WPr P ops Q n j g own sl' → WPr P ops Q n i g own sl) (k : WPr P ops Q n j g own sl') : WPr P ops Q n i g own sl := hk k
theorem wpr_grpG {i : Nat} (j : Nat) (sl' : Sl) (hk : (∀ g', g.le g' → WPr P ops Q n j g' own sl') → WPr P ops Q n i g own sl) (k : ∀ g', g.le g' → WPr P ops Q n j g' own sl') : WPr P ops Q n i g own sl := hk k
theorem wpa_grp {lds fin : List Nat} {K : Own} {fuel : Nat} {listed : List Bool} (fuel' : Nat) (listed' : List Bool) (sl' : Sl) (hk : WPa P ops Q lds fin p K fuel' listed' n g own sl' → WPa P ops Q lds fin p K fuel listed n g own sl) (k : WPa P ops Q lds fin p K fuel' listed' n g own sl') : WPa P ops Q lds fin p K fuel listed n g own sl := hk k
theorem wpa_grpG {lds fin : List Nat} {K : Own} {fuel : Nat} {listed : List Bool} (fuel' : Nat) (listed' : List Bool) (sl' : Sl) (hk : (∀ g', g.le g' → WPa P ops Q lds fin p K fuel' listed' n g' own sl') → WPa P ops Q lds fin p K fuel listed n g own sl) (k : ∀ g', g.le g' → WPa P ops Q lds fin p K fuel' listed' n g' own sl') : WPa P ops Q lds fin p K fuel listed n g own sl := hk k
theorem re_and1 {b c : Bool} (h : b = true) : Value.bool c = Value.bool (b && c) := by rw [h]; rfl
theorem re_and0 {b c : Bool} (h : b = false) : Value.bool false = Value.bool (b && c) := by rw [h]; rfl
theorem re_or0 {b c : Bool} (h : b = false) : Value.bool c = Value.bool (b || c) := by rw [h]; rfl
theorem re_or1 {b c : Bool} (h : b = true) : Value.bool true = Value.bool (b || c) := by rw [h]; rfl
/-! ### reading, with all that is to be checked as equations -/
def ownCell (own : Own) (i off : Nat) : Option (Nat × Value) := match own[i]? with
  | some (some k) => (k.cs[off]?).map fun v => (k.g, v)
  | _ => none
def ownPart (own : Own) (i off m : Nat) : Option (Nat × List Value) := match own[i]? with
  | some (some k) => some (k.g, (k.cs.drop off).take m)
  | _ => none
theorem ownCell_some {i off b : Nat} {v : Value} (h : ownCell own i off = some (b, v)) : ∃ k, own[i]? = some (some k) ∧ k.g = b ∧ k.cs[off]? = some v := by
  unfold ownCell at h
  split at h
  · rename_i k hk
    cases e : k.cs[off]? with
    | none => rw [e] at h; cases h
    | some u => rw [e] at h; simp at h; exact ⟨k, hk, h.1, by rw [h.2] at e; exact e⟩
  · cases h
theorem ownPart_some {i off m b : Nat} {vs : List Value} (h : ownPart own i off m = some (b, vs)) : ∃ k, own[i]? = some (some k) ∧ k.g = b ∧ (k.cs.drop off).take m = vs := by
  unfold ownPart at h
  split at h
  · rename_i k hk
    simp at h
    exact ⟨k, hk, h.1, h.2⟩
  · cases h
theorem q_load1 {t : TypeId} {x : Operand} (b off i : Nat) {v : Value} (hx : evS sl x = some (.pointer (some ⟨b, off, none⟩))) (hi : ownCell own i off = some (b, v)) (ht : flatOf P t = true) : Yld P n p own sl (.load t x) ty v := by
  obtain ⟨k, h1, h2, h3⟩ := ownCell_some hi
  exact y_load1 hx h1 h2 ht h3
theorem q_loadA {t : TypeId} {x : Operand} (b off i : Nat) (vs : List Value) (hx : evS sl x = some (.pointer (some ⟨b, off, none⟩))) (hi : ownPart own i off vs.length = some (b, vs)) (ht : aggOf P t = some vs.length) : Yld P n p own sl (.load t x) ty (.agg vs.toArray) := by
  obtain ⟨k, h1, h2, h3⟩ := ownPart_some hi
  exact y_loadA hx h1 h2 ht h3
theorem q_loadP1 {t : TypeId} {x : Operand} (A : Addr) (off : Nat) {cs : List Value} {v : Value} (hx : evS sl x = some (.pointer (some (A.add off)))) (hc : Cells p A cs) (ht : flatOf P t = true) (hv : cs[off]? = some v) : Yld P n p own sl (.load t x) ty v := y_loadP1 off hx hc ht hv
theorem q_loadPA {t : TypeId} {x : Operand} (A : Addr) (off : Nat) {cs : List Value} (vs : List Value) (hx : evS sl x = some (.pointer (some (A.add off)))) (hc : Cells p A cs) (ht : aggOf P t = some vs.length) (hv : (cs.drop off).take vs.length = vs) : Yld P n p own sl (.load t x) ty (.agg vs.toArray) := y_loadPA off hx hc ht hv
theorem q_store {t : TypeId} {x y : Operand} (b off i : Nat) (v : Value) (vs : List Value) (t0 : TypeId) (cs cs' : List Value) (hx : evS sl x = some (.pointer (some ⟨b, off, none⟩))) (hy : evS sl y = some v) (hi : own[i]? = some (some ⟨b, t0, cs⟩))
    (hv : v.cells = vs.toArray) (hz : cellsOfT P t = some vs.length) (h1 : (vs.all one1 && Nat.ble (off + vs.length) cs.length) = true) (hc : setRow cs off vs = cs') :
    Eff P n g own sl (.store t x y) ty (fun v' g' own' => g = g' ∧ own' = own.set i (some ⟨b, t0, cs'⟩)) := by
  simp only [Bool.and_eq_true] at h1
  exact e_store (k := ⟨b, t0, cs⟩) hx hy hi rfl hv hz h1.1 h1.2 hc
theorem wpr_storeQ {i : Nat} (j : Nat) (t : TypeId) (x y : Operand) (ty : TypeId) (b off io : Nat) (v : Value) (vs : List Value) (t0 : TypeId) (cs cs' : List Value) (own' : Own) (hr : Runs ops i sl none (.store t x y) ty) (hj : Nat.beq j (i + 1) = true)
    (hx : evS sl x = some (.pointer (some ⟨b, off, none⟩))) (hy : evS sl y = some v) (hi : own[io]? = some (some ⟨b, t0, cs⟩))
    (hv : v.cells = vs.toArray) (hz : cellsOfT P t = some vs.length) (h1 : (vs.all one1 && Nat.ble (off + vs.length) cs.length) = true) (hc : setRow cs off vs = cs') (ho : own.set io (some ⟨b, t0, cs'⟩) = own')
    (k : WPr P ops Q n j g own' sl) : WPr P ops Q n i g own sl :=
  wpr_do j _ ty hr hj (q_store b off io v vs t0 cs cs' hx hy hi hv hz h1 hc) fun v' g' own'' _ ⟨h1, h2⟩ => by subst h1; subst h2; rw [ho]; exact k
theorem wpr_boxQ {i : Nat} (j : Nat) (d : Tmp) (t : TypeId) (x : Operand) (ty : TypeId) (v : Value) (cs : List Value) (hr : Runs ops i sl (some d) (.box t x) ty) (hd : (Nat.blt d n && Nat.beq j (i + 1)) = true) (hx : evS sl x = some v) (hc : v.cells = cs.toArray)
    (k : ∀ b, WPr P ops Q n j g (some ⟨b, t, cs⟩ :: own) ((d, .pointer (some ⟨b, 0, none⟩)) :: sl)) : WPr P ops Q n i g own sl :=
  wpr_eff j d _ ty hr hd (e_box hx hc) fun v' g' own' _ ⟨b, h1, h2, h3⟩ => by subst h1; subst h2; subst h3; exact k b
theorem wpr_allocQ {i : Nat} (j : Nat) (d : Tmp) (t : TypeId) (ty : TypeId) (cs : List Value) (hr : Runs ops i sl (some d) (.alloc t) ty) (hd : (Nat.blt d n && Nat.beq j (i + 1)) = true) (hz : zeroOf P t = some cs.toArray)
    (k : ∀ b, WPr P ops Q n j g (some ⟨b, t, cs⟩ :: own) ((d, .pointer (some ⟨b, 0, none⟩)) :: sl)) : WPr P ops Q n i g own sl :=
  wpr_eff j d _ ty hr hd (e_alloc hz) fun v' g' own' _ ⟨b, h1, h2, h3⟩ => by subst h1; subst h2; subst h3; exact k b
/-- results out of slots and out of one's own blocks -/
theorem rq_cell1 {x : Tmp} {t : TypeId} (b off i : Nat) {v : Value} {rs : List ResultVar} {vs : List Value} (h : getS sl x = some (.pointer (some ⟨b, off, none⟩))) (hi : ownCell own i off = some (b, v)) (ht : flatOf P t = true) (k : ResOk P own sl rs vs) : ResOk P own sl (.cell x t :: rs) (v :: vs) := by
  obtain ⟨kb, h1, h2, h3⟩ := ownCell_some hi
  exact res_cell1 h h1 h2 ht h3 k
theorem rq_cellA {x : Tmp} {t : TypeId} (b off i : Nat) (cs : List Value) {rs : List ResultVar} {vs : List Value} (h : getS sl x = some (.pointer (some ⟨b, off, none⟩))) (hi : ownPart own i off cs.length = some (b, cs)) (ht : aggOf P t = some cs.length) (k : ResOk P own sl rs vs) : ResOk P own sl (.cell x t :: rs) (.agg cs.toArray :: vs) := by
  obtain ⟨kb, h1, h2, h3⟩ := ownPart_some hi
  exact res_cellA h h1 h2 ht h3 k
end
/-! ### numbers within their kind -/
theorem wr64 {x : Int} (h : -9223372036854775808 ≤ x ∧ x ≤ 9223372036854775807) : IntKind.i64.wrap x = x := IntWalk.i64_in x h
theorem wr_u8 {x : Int} (h : 0 ≤ x ∧ x ≤ 255) : IntKind.u8.wrap x = x := IntWalk.u8_in x h
theorem wr_u16 {x : Int} (h : 0 ≤ x ∧ x ≤ 65535) : IntKind.u16.wrap x = x := IntWalk.u16_in x h
theorem wr_u64 {x : Int} (h : 0 ≤ x ∧ x ≤ 18446744073709551615) : IntKind.u64.wrap x = x := by
  rw [IntKind.wrap_u64]; omega
theorem not_eq_true_ {b : Bool} (h : (!b) = true) : b = false := by cases b <;> simp_all
theorem not_eq_false_ {b : Bool} (h : (!b) = false) : b = true := by cases b <;> simp_all
theorem and_true_ {a b : Bool} (h : (a && b) = true) : a = true ∧ b = true := by cases a <;> cases b <;> simp_all
theorem or_false_ {a b : Bool} (h : (a || b) = false) : a = false ∧ b = false := by cases a <;> cases b <;> simp_all
theorem ne_of_beq_false_ {α : Type} [BEq α] [LawfulBEq α] {a b : α} (h : (a == b) = false) : ¬ a = b := by simpa using h
theorem eq_of_bne_false_ {α : Type} [BEq α] [LawfulBEq α] {a b : α} (h : (a != b) = false) : a = b := by simpa using h
theorem ne_of_bne_ {α : Type} [BEq α] [LawfulBEq α] {a b : α} (h : (a != b) = true) : ¬ a = b := by simpa using h
def maxI (a b : Int) : Int := if b > a then b else a
def minI (a b : Int) : Int := if b < a then b else a
theorem maxI_spec (a b : Int) : a ≤ maxI a b ∧ b ≤ maxI a b ∧ (maxI a b = a ∨ maxI a b = b) := by unfold maxI; split <;> omega
theorem minI_spec (a b : Int) : minI a b ≤ a ∧ minI a b ≤ b ∧ (minI a b = a ∨ minI a b = b) := by unfold minI; split <;> omega
def landK (k : IntKind) (a b : Int) : Int := k.wrap (BitVec.ofInt k.bits a &&& BitVec.ofInt k.bits b).toNat
def lorK (k : IntKind) (a b : Int) : Int := k.wrap (BitVec.ofInt k.bits a ||| BitVec.ofInt k.bits b).toNat
def lxorK (k : IntKind) (a b : Int) : Int := k.wrap (BitVec.ofInt k.bits a ^^^ BitVec.ofInt k.bits b).toNat
def shlK (k : IntKind) (a b : Int) : Int := k.wrap (a * 2 ^ (min b.toNat k.bits))
def shrK (k : IntKind) (a b : Int) : Int := a.fdiv (2 ^ (min b.toNat k.bits))
theorem get_getD {α : Type} {l : List α} {i : Nat} {d : α} (h : i < l.length) : l[i]? = some (l.getD i d) := by
  rw [List.getD_eq_getElem?_getD, List.getElem?_eq_getElem h]; rfl
section
variable {P : Program} {n : Nat} {p : Psi} {own : Own} {sl : Sl} {ty : TypeId}
theorem q_index {t e : TypeId} {x i : Operand} (idx : Nat) {A : Addr} {A0 : Option Addr} {len c sz : Nat} {k : IntKind} {z : Int} (hA : A0 = some A) (hx : evS sl x = some (.slice A0 len c)) (hi : evS sl i = some (.int k z)) (hz : z = (idx : Int)) (hlt : idx < len) (ht : P.underlying t = some (.slice e)) (hs : cellsOfT P e = some sz) :
    Yld P n p own sl (.indexAddr t x i) ty (.pointer (some (A.add (idx * sz)))) := by
  subst hA; subst hz
  exact y_index idx hx hi hlt ht hs
theorem ev_toNat {x : Operand} {k : IntKind} {z : Int} (h : evS sl x = some (.int k z)) (h0 : 0 ≤ z) : evS sl x = some (.int k ((z.toNat : Nat) : Int)) := by
  rw [h, Int.toNat_of_nonneg h0]
theorem run_equalIn_nil {w : World} (d : Nat) {t e : TypeId} {A : Option Addr} {l c l2 c2 : Nat} (ht : P.underlying t = some (.slice e)) : (Op.equalIn (d + 1) t (.slice A l c) (.slice none l2 c2)).run P w = .ok A.isNone w := by
  cases A <;> simp [Op.equalIn, run_underlying ht]
theorem y_isnil {t u e : TypeId} {x y : Operand} {A : Option Addr} {l c l2 c2 : Nat} (hx : evS sl x = some (.slice A l c)) (hy : evS sl y = some (.slice none l2 c2)) (ht : P.underlying t = some (.slice e)) : Yld P n p own sl (.binOp .eql t x y u) ty (.bool A.isNone) := by
  intro o a w h1 h2 hf hr
  have e1 : (Op.equal t (.slice A l c) (.slice none l2 c2)).run P w = .ok A.isNone w := run_equalIn_nil 9999 ht
  have e2 : (binOp .eql t (.slice A l c) (.slice none l2 c2)).run P w = .ok (.bool A.isNone) w := by
    simp only [binOp, Sem.run_bind, e1, Result.andThen_ok, Sem.run_pure]
  simp only [execOp, h1, hf.ev hx, hf.ev hy, eqGuard]
  simp [e2]
end
section
variable {P : Program} {n : Nat} {g : Gh} {own : Own} {sl : Sl} {ty : TypeId} {α : Type} {T : Ty α} {p : Psi}
/-- a place for a slice of one's own that is still nil -/
theorem wpq_addnone {K : Act → World → Prop} (k : WPq K n g (none :: own) sl) : WPq K n g own sl := fun a w hf hs =>
  k a w hf ⟨hs.r, by rw [Own.ids_cons]; exact hs.nodup, fun k hk => hs.has k (by simpa using hk), fun k hk => hs.free k (by simpa using hk)⟩
/-- blocks that nobody asks for any more -/
theorem wpq_drop {K : Act → World → Prop} (m : List Bool) (own' : Own) (e : pickM m own = own') (k : WPq K n g own' sl) : WPq K n g own sl := fun a w hf hs => k a w hf (keepM m e w hs)
theorem reps_nil : Reps T p [] [] := rfl
theorem reps_cons {c cs : List Value} {x : α} {xs : List α} (h : T.rep p c x) (k : Reps T p cs xs) : Reps T p (c ++ cs) (x :: xs) := ⟨c, cs, rfl, h, k⟩
/-- a type whose cells bear no memory -/
def Flat (T : Ty α) : Prop := ∀ p q cs x, T.rep p cs x → T.rep q cs x
theorem flatU8 : Flat tyU8 := fun _ _ _ _ h => h
theorem flatI (k : IntKind) : Flat (tyI k) := fun _ _ _ _ h => h
theorem flatB : Flat tyB := fun _ _ _ _ h => h
theorem flatS : Flat tyS := fun _ _ _ _ h => h
theorem Flat.reps (hT : Flat T) {q : Psi} : ∀ {xs : List α} {cs : List Value}, Reps T p cs xs → Reps T q cs xs
  | [], cs, h => h
  | x :: xs, cs, ⟨c1, c2, e, h1, h2⟩ => ⟨c1, c2, e, hT _ _ _ _ h1, hT.reps h2⟩
theorem Arr.srcR {A : Option Addr} {c : Nat} {xs : List α} (h : Arr g.r T A c xs) : ∃ news, Reps T g.r news xs ∧ ∀ w own, St w g own → Src w A xs.length news := by
  obtain ⟨news, h1, h2⟩ := h.src
  exact ⟨news, h1, fun w own hs => h2 w hs.r⟩
theorem Arr.srcB {A : Option Addr} {c : Nat} {xs : List α} (h : Arr g.b T A c xs) : ∃ news, Reps T g.b news xs ∧ ∀ w own, St w g own → Src w A xs.length news := by
  obtain ⟨news, h1, h2⟩ := h.src
  exact ⟨news, h1, fun w own hs => h2 w (hs.r.mono g.br)⟩
theorem src_lit {i b : Nat} {t : TypeId} {m : Nat} {cs : List Value} (hi : own[i]? = some (some ⟨b, t, cs⟩)) (w : World) (hs : St w g own) : Src w (some ⟨b, 0, none⟩) m cs := src_own hi (fun j u h => h) w hs
def u8 (z : Int) : UInt8 := UInt8.ofNat z.toNat
theorem u8_rep {z : Int} (h : 0 ≤ z ∧ z ≤ 255) : tyU8.rep p [.int .u8 z] (u8 z) := by
  show [Value.int .u8 z] = [Value.int .u8 ((u8 z).toNat : Int)]
  have : ((u8 z).toNat : Int) = z := by
    unfold u8
    rw [UInt8.toNat_ofNat']
    omega
  rw [this]
theorem wrapU8_rng (x : Int) : 0 ≤ IntKind.u8.wrap x ∧ IntKind.u8.wrap x ≤ 255 := by
  rw [IntKind.wrap_u8]; omega
theorem e_appendQ {t et : TypeId} {bytes : Nat} {s x : Operand} (i : Nat) (v : Value) (k : Option Bk) (xs : List α) (A : Option Addr) (m c : Nat) (ys : List α) {news : List Value} (ha : appT P t et = some (T.n, bytes)) (hs : evS sl s = some v) (hx : evS sl x = some (.slice A m c)) (hi : own[i]? = some k) (hb : Buf p T et v k xs)
    (hm : m = ys.length) (hsrc : ∀ w, St w g own → Src w A m news) (hrep : Reps T p news ys) (hlen : xs.length + ys.length ≤ 140737488355328) (hbytes : (xs.length + ys.length) * bytes ≤ 140737488355328) :
    Eff P n g own sl (.call { callee := .builtin .append, args := #[s, x], argTypes := #[t, t] }) ty (fun v' g' own' => ∃ A' c' k', v' = .slice A' (xs ++ ys).length c' ∧ g = g' ∧ own' = own.set i k' ∧ Buf p T et (.slice A' (xs ++ ys).length c') k' (xs ++ ys)) :=
  e_append i p news ha hs hx hi hb hm hsrc hrep hlen hbytes
theorem Arr.nil_of {A : Option Addr} {c : Nat} {xs : List α} (h : Arr p T A c xs) (hA : A.isNone = true) : xs = [] := by
  obtain ⟨_, _, cs, _, hrow⟩ := h
  cases xs with
  | nil => rfl
  | cons x xs =>
    obtain ⟨ad, e, _⟩ := hrow (by simp)
    subst e
    cases hA
end
theorem cond_t {α : Type} {b : Bool} {x y : α} (h : b = true) : x = cond b x y := by rw [h]; rfl
theorem cond_f {α : Type} {b : Bool} {x y : α} (h : b = false) : y = cond b x y := by rw [h]; rfl
theorem wpc_meet {P : Program} {Q : Exit → Act → World → Prop} {n : Nat} {g : Gh} {own : Own} {sl : Sl} {c : Code} (R : Gh → Own → Sl → Prop) (k : ∀ g' own' sl', g.le g' → R g' own' sl' → WPq (Q .normal) n g' own' sl')
    (h : (∀ g' own' sl', g.le g' → R g' own' sl' → WPq (Q .normal) n g' own' sl') → WPc P c Q n g own sl) : WPc P c Q n g own sl := h k
theorem cond_dec {x a b : Int} {p : Prop} [Decidable p] (h : x = cond (decide p) a b) : (p ∧ x = a) ∨ (¬ p ∧ x = b) := by
  by_cases hp : p
  · rw [decide_eq_true hp] at h; exact .inl ⟨hp, h⟩
  · rw [decide_eq_false hp] at h; exact .inr ⟨hp, h⟩
theorem cond_beq {x a b u v : Int} (h : x = cond (u == v) a b) : (u = v ∧ x = a) ∨ (¬ u = v ∧ x = b) := by
  by_cases hp : u = v
  · rw [beq_iff_eq.2 hp] at h; exact .inl ⟨hp, h⟩
  · rw [beq_eq_false_iff_ne.2 hp] at h; exact .inr ⟨hp, h⟩
section
variable {P : Program} {n : Nat} {g : Gh} {own : Own} {sl : Sl} {ty : TypeId} {α : Type} {T : Ty α} {p : Psi}
theorem arr_of_block {b : Nat} {t : TypeId} {cs : List Value} {xs : List α} {c : Nat} (h : p.m b = some (.cells cs.toArray t (0, 0))) (hr : Reps T p cs xs) (hc : xs.length ≤ c) (hl : xs.length ≤ 140737488355328) : Arr p T (some ⟨b, 0, none⟩) c xs :=
  ⟨hc, hl, cs, hr, fun _ => ⟨_, rfl, fun j v hj => by
    rw [addr_add]
    simp only [Psi.cell?, h]
    simpa using hj⟩⟩
theorem lent {rest : Own} {k : Bk} (i : Nat) (h : rest[i]? = some (some k)) : some k ∈ rest := List.mem_of_getElem? h
theorem Reps.toR {cs : List Value} {xs : List α} {g' : Gh} (h : Reps T g.b cs xs) (e : g'.b = g.b) : Reps T g'.r cs xs := h.mono (e ▸ g'.br)
theorem q_storeR {t : TypeId} {x y : Operand} (b idx io : Nat) (v : Value) (vs : List Value) (t0 : TypeId) (cs : List Value) (xs : List α) (u : α) (hx : evS sl x = some (.pointer (some ⟨b, idx * T.n, none⟩))) (hy : evS sl y = some v) (hi : own[io]? = some (some ⟨b, t0, cs⟩))
    (hv : v.cells = vs.toArray) (hz : cellsOfT P t = some vs.length) (h1 : vs.all one1 = true) (hr : Reps T p cs xs) (hu : T.rep p vs u) (hlt : idx < xs.length) :
    Eff P n g own sl (.store t x y) ty (fun v' g' own' => ∃ cs', g = g' ∧ own' = own.set io (some ⟨b, t0, cs'⟩) ∧ Reps T p cs' (xs.set idx u)) := by
  intro o a w Q K e1 e2 hf hs h
  have hl : idx * T.n + vs.length ≤ cs.length := by
    rw [hr.len, T.len hu, ← Nat.succ_mul]
    exact Nat.mul_le_mul_right _ hlt
  refine e_store (k := ⟨b, t0, cs⟩) hx hy hi rfl hv hz h1 (by simpa using hl) rfl o a w Q K e1 e2 hf hs fun v' g' own' w' hg hs' ⟨h2, h3⟩ => h v' g' own' w' hg hs' ⟨_, h2, h3, hr.set hu hlt⟩
end
theorem getD_mem {α : Type} {l : List α} {i : Nat} {d : α} (h : i < l.length) : l.getD i d ∈ l := by
  rw [List.getD_eq_getElem?_getD, List.getElem?_eq_getElem h]; exact List.getElem_mem h
theorem rem_pos_ {a b : Int} (h : 0 ≤ a) : a.tmod b = a % b := Int.tmod_eq_emod_of_nonneg h
theorem quo_u8 {x y : Int} (h : 0 ≤ x ∧ x ≤ 255 ∧ 1 ≤ y) : IntKind.u8.wrap (x.tdiv y) = x / y := by
  rw [Int.tdiv_eq_ediv_of_nonneg h.1]; have := IntWalk.tdiv_le x y h.1 h.2.2; exact wr_u8 (by omega)
theorem quo_u16 {x y : Int} (h : 0 ≤ x ∧ x ≤ 65535 ∧ 1 ≤ y) : IntKind.u16.wrap (x.tdiv y) = x / y := by
  rw [Int.tdiv_eq_ediv_of_nonneg h.1]; have := IntWalk.tdiv_le x y h.1 h.2.2; exact wr_u16 (by omega)
theorem quo_u64 {x y : Int} (h : 0 ≤ x ∧ x ≤ 18446744073709551615 ∧ 1 ≤ y) : IntKind.u64.wrap (x.tdiv y) = x / y := by
  rw [Int.tdiv_eq_ediv_of_nonneg h.1]; have := IntWalk.tdiv_le x y h.1 h.2.2; exact wr_u64 (by omega)
end Go.Proofs.YthfekfebgghjhaaDoor
