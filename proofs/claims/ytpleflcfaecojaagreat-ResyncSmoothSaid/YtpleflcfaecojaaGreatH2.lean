/-
The third engine, part 2: what an operation does (a tree), what it is told to do, and what it has to show. Conditions: each lemma's own.
-/
import Derived.Test.YtpleflcfaecojaaGreatH1
namespace Go.Proofs.YtpleflcfaecojaaGreat
set_option linter.unusedVariables false
set_option linter.unusedSimpArgs false
open Go.RowKit
def cnd {α : Type} (c : Bool) (x y : α) : α := (fun _ : Nat → Option Unit => match c with | true => x | false => y) fun n => loopO n (fun _ => none) ()
def gd {α : Type} (c : Bool) (x : Option α) : Option α := (fun _ : Nat → Option Unit => match c with | true => x | false => none) fun n => loopO n (fun _ => none) ()
def bd {α β : Type} (x : Option α) (k : α → Option β) : Option β := (fun _ : Nat → Option Unit => match x with | some t => k t | none => none) fun n => loopO n (fun _ => none) ()
def jd {α β : Type} (x : Option (Ctl α β)) (k : α → Option β) : Option β := (fun _ : Nat → Option Unit => match x with | some (.go t) => k t | some (.done r) => some r | none => none) fun n => loopO n (fun _ => none) ()
def dnO {α β : Type} (x : Option β) : Option (Ctl α β) := (fun _ : Nat → Option Unit => match x with | some r => some (.done r) | none => none) fun n => loopO n (fun _ => none) ()
def sm {α β ρ : Type} (x : α ⊕ β) (f : α → ρ) (g : β → ρ) : ρ := (fun _ : Nat → Option Unit => match x with | .inl a => f a | .inr b => g b) fun n => loopO n (fun _ => none) ()
noncomputable def bothO {α : Type} (x y : Option α) : Option α := (fun _ : Nat → Option Unit => @ite _ (x = y) (Classical.propDecidable _) x none) fun n => loopO n (fun _ => none) ()
noncomputable def nlO {α : Type} (e : Bool) (x y : Option α) : Option α := (fun _ : Nat → Option Unit => match e with | true => bothO x y | false => y) fun n => loopO n (fun _ => none) ()
theorem bothO_some {α : Type} {x y : Option α} {r : α} (h : bothO x y = some r) : x = some r ∧ y = some r := by
  unfold bothO at h
  by_cases e : x = y
  · simp only [e, if_true] at h ⊢; exact ⟨h, h⟩
  · simp only [e, if_false] at h; cases h
theorem nlO_some {α : Type} {e : Bool} {x y : Option α} {r : α} (h : nlO e x y = some r) : y = some r ∧ (e = true → x = some r) := by
  cases e with
  | true => have := bothO_some (h : bothO x y = some r); exact ⟨this.2, fun _ => this.1⟩
  | false => exact ⟨h, fun e => by cases e⟩
theorem nlO_eq {α : Type} {e : Bool} {x y : Option α} (h : e = true → x = y) : nlO e x y = y := by
  cases e with
  | true =>
    show bothO x y = y
    unfold bothO
    simp [h rfl]
  | false => rfl
theorem dnO_some {α β : Type} {x : Option β} {c : Ctl α β} (h : dnO x = some c) : ∃ r, x = some r ∧ c = .done r := by
  cases x with
  | none => cases h
  | some r => injection (show some (Ctl.done r) = some c from h) with h; exact ⟨r, rfl, h.symm⟩
theorem gd_def {α : Type} (c : Bool) (x : Option α) : gd c x = grd c x := by cases c <;> rfl
theorem bd_def {α β : Type} (x : Option α) (k : α → Option β) : bd x k = bindO x k := by cases x <;> rfl
theorem jd_def {α β : Type} (x : Option (Ctl α β)) (k : α → Option β) : jd x k = joinO x k := by
  cases x with
  | none => rfl
  | some c => cases c <;> rfl
structure HE where
  val : SV
  upd : List (Nat × BV)
  new : List BV
def natMem (x : Nat) : List Nat → Bool
  | [] => false
  | y :: l => cond (Nat.beq x y) true (natMem x l)
def maskB : Nat → List Nat → List BV → List BV
  | _, _, [] => []
  | i, ids, bv :: l => cond (natMem i ids) bv .no :: maskB (i + 1) ids l
inductive Tr : Type 1 where
  | no
  | done (e : HE)
  | need (b : Nat) (k : BV → Tr)
  | frz (b : Nat) (k : Tr)
  | grd (c : Bool) (k : Tr)
  | bnd {τ : Type} (x : Option τ) (k : τ → Tr)
  | sub (ids : List BV → List Nat) (k : List BV → Tr)
  | alt {α β : Type} (x : α ⊕ β) (k1 : α → Tr) (k2 : β → Tr)
def setNew : List BV → Nat → List BV → List BV
  | bl, _, [] => bl
  | bl, f, v :: l => setNew (bl.set f v) (f + 1) l
def setUpd : List BV → List (Nat × BV) → List BV
  | bl, [] => bl
  | bl, (b, v) :: l => setUpd (bl.set b v) l
def applyE (bl : List BV) (f : Nat) (e : HE) : List BV := setNew (setUpd bl e.upd) f e.new
def frzB : BV → Option BV
  | .row c _ xs => some (.fz c xs)
  | _ => none
def Told (f : Nat) : Tr → List BV → List BV → SV → Prop
  | .no, _, _, _ => False
  | .done e, bl, bl', v => bl' = applyE bl f e ∧ v = e.val
  | .need b k, bl, bl', v => ∃ bv, bl[b]? = some bv ∧ Told f (k bv) bl bl' v
  | .frz b k, bl, bl', v => ∃ bv fv, bl[b]? = some bv ∧ frzB bv = some fv ∧ Told f k (bl.set b fv) bl' v
  | .grd c k, bl, bl', v => c = true ∧ Told f k bl bl' v
  | .bnd x k, bl, bl', v => ∃ t, x = some t ∧ Told f (k t) bl bl' v
  | .sub _ k, bl, bl', v => ∃ idl, Told f (k (maskB 0 idl bl)) bl bl' v
  | .alt x k1 k2, bl, bl', v => (∃ a, x = .inl a ∧ Told f (k1 a) bl bl' v) ∨ ∃ b, x = .inr b ∧ Told f (k2 b) bl bl' v
def runT {ρ : Type} (f : Nat) : Tr → List BV → (List BV → SV → Option ρ) → Option ρ
  | .no, _, _ => none
  | .done e, bl, K => K (applyE bl f e) e.val
  | .need b k, bl, K => match bl[b]? with | some bv => runT f (k bv) bl K | none => none
  | .frz b k, bl, K => match bl[b]? with | some bv => (match frzB bv with | some fv => runT f k (bl.set b fv) K | none => none) | none => none
  | .grd c k, bl, K => gd c (runT f k bl K)
  | .bnd x k, bl, K => bd x fun t => runT f (k t) bl K
  | .sub ids k, bl, K => runT f (k (maskB 0 (ids bl) bl)) bl K
  | .alt x k1 k2, bl, K => sm x (fun a => runT f (k1 a) bl K) (fun b => runT f (k2 b) bl K)
theorem runT_told {ρ : Type} {f : Nat} {K : List BV → SV → Option ρ} {r : ρ} : ∀ {t : Tr} {bl : List BV}, runT f t bl K = some r → ∃ bl' v, Told f t bl bl' v ∧ K bl' v = some r
  | .no, bl, h => by cases h
  | .done e, bl, h => ⟨_, _, ⟨rfl, rfl⟩, h⟩
  | .need b k, bl, h => by
    unfold runT at h
    split at h
    · rename_i bv e
      obtain ⟨bl', v, h1, h2⟩ := runT_told h
      exact ⟨bl', v, ⟨bv, e, h1⟩, h2⟩
    · cases h
  | .frz b k, bl, h => by
    unfold runT at h
    split at h
    · rename_i bv e
      split at h
      · rename_i fv e2
        obtain ⟨bl', v, h1, h2⟩ := runT_told h
        exact ⟨bl', v, ⟨bv, fv, e, e2, h1⟩, h2⟩
      · cases h
    · cases h
  | .grd c k, bl, h => by
    obtain ⟨hc, h⟩ := grd_T ((gd_def _ _).symm.trans h)
    obtain ⟨bl', v, h1, h2⟩ := runT_told h
    exact ⟨bl', v, ⟨hc, h1⟩, h2⟩
  | .bnd x k, bl, h => by
    obtain ⟨t, hx, h⟩ := bindO_T ((bd_def _ _).symm.trans h)
    obtain ⟨bl', v, h1, h2⟩ := runT_told h
    exact ⟨bl', v, ⟨t, hx, h1⟩, h2⟩
  | .sub ids k, bl, h => by
    unfold runT at h
    obtain ⟨bl', v, h1, h2⟩ := runT_told h
    exact ⟨bl', v, ⟨_, h1⟩, h2⟩
  | .alt x k1 k2, bl, h => by
    unfold runT at h
    cases x with
    | inl a =>
      obtain ⟨bl', v, h1, h2⟩ := runT_told h
      exact ⟨bl', v, .inl ⟨a, rfl, h1⟩, h2⟩
    | inr b =>
      obtain ⟨bl', v, h1, h2⟩ := runT_told h
      exact ⟨bl', v, .inr ⟨b, rfl, h1⟩, h2⟩
def EffH (P : Program) (n : Nat) (op : Op) (ty : TypeId) (sl : List (Nat × SV)) (bl bl' : List BV) (val : SV) : Prop :=
  ∀ (o : Oper) (a : Act) (w : World) (Q : Exit → Act → World → Prop) (K : Act → World → Prop) (g : Gh) (ρ : Env) (own : Own) (fr : Sl),
    o.op = op → o.type = ty → Rl g ρ ⟨sl, bl⟩ own fr → Fr n a fr → St w g own →
    (∀ v g' ρ' own' w', g.le g' → Ext ρ bl ρ' bl' → St w' g' own' → Rl g' ρ' ⟨sl, bl'⟩ own' fr → RealS g' ρ' bl' val v → K (a.put o.dst v) w') → Oper.wp P o a w K Q
theorem Rl.turn {g g' : Gh} {ρ ρ' : Env} {sl : List (Nat × SV)} {bl bl' : List BV} {own own' : Own} {fr : Sl} (h : Rl g ρ ⟨sl, bl⟩ own fr) (hg : g.le g') (he : Ext ρ bl ρ' bl') (hl : own'.length = bl'.length)
    (hb : ∀ i bv k, bl'[i]? = some bv → own'[i]? = some k → BlkR g' ρ' bl' k (ρ' i) bv) : Rl g' ρ' ⟨sl, bl'⟩ own' fr :=
  ⟨hl, hb, fun t sv e => by
    obtain ⟨v, h1, h2⟩ := h.slot t sv e
    exact ⟨v, h1, h2.ext hg he⟩, h.gi.mono hg.b⟩
theorem EffH.of_yld {P : Program} {n : Nat} {op : Op} {ty : TypeId} {sl : List (Nat × SV)} {bl : List BV} {val : SV}
    (h : ∀ g ρ own fr, Rl g ρ ⟨sl, bl⟩ own fr → ∃ v, RealS g ρ bl val v ∧ Yld P n g.r own fr op ty v) : EffH P n op ty sl bl bl val := by
  intro o a w Q K g ρ own fr h1 h2 hr hf hs hk
  obtain ⟨v, hv, hy⟩ := h g ρ own fr hr
  simp only [Oper.wp, hy o a w h1 h2 hf hs.rdw, Oper.upon]
  exact hk v g ρ own w (.refl g) .refl hs hr hv
def leI : Int → Int → Bool
  | .ofNat a, .ofNat b => Nat.ble a b
  | .negSucc _, .ofNat _ => true
  | .ofNat _, .negSucc _ => false
  | .negSucc a, .negSucc b => Nat.ble b a
theorem leI_ok {a b : Int} (h : leI a b = true) : a ≤ b := by
  cases a <;> cases b <;> simp only [leI] at h
  · have := Nat.le_of_ble_eq_true h; rw [Int.ofNat_eq_natCast, Int.ofNat_eq_natCast]; omega
  · cases h
  · rw [Int.ofNat_eq_natCast]; omega
  · have := Nat.le_of_ble_eq_true h; omega
def kMin : IntKind → Int
  | .i8 => .negSucc 127 | .i16 => .negSucc 32767 | .i32 => .negSucc 2147483647 | .i64 => .negSucc 9223372036854775807 | _ => 0
def kMax : IntKind → Int
  | .i8 => 127 | .i16 => 32767 | .i32 => 2147483647 | .i64 => 9223372036854775807 | .u8 => 255 | .u16 => 65535 | .u32 => 4294967295 | .u64 => 18446744073709551615
def inKb (k : IntKind) (x : Int) : Bool := leI (kMin k) x && leI x (kMax k)
theorem inKb_ok {k : IntKind} {x : Int} (h : inKb k x = true) : inK k x := by
  simp only [inKb, Bool.and_eq_true] at h
  have h1 := leI_ok h.1
  have h2 := leI_ok h.2
  have e1 : k.min = kMin k := by cases k <;> rfl
  have e2 : k.max = kMax k := by cases k <;> rfl
  exact ⟨by rw [e1]; exact h1, by rw [e2]; exact h2⟩
def constC (v : Value) : Option CV := match v with
  | .int k x => cond (inKb k x) (some (.int k x)) none
  | .bool b => some (.bool b)
  | .string b => cond (Nat.ble b.data.toList.length 140737488355328) (some (.str b.data.toList)) none
  | v => cond (constant v) (some (.k v)) none
def constL : List Value → Option (List CV)
  | [] => some []
  | v :: l => match constC v, constL l with | some c, some m => some (c :: m) | _, _ => none
def constS : Value → Option SV
  | .agg cs => match constL cs.toList with | some l => some (.v (.agg l)) | none => none
  | v => match constC v with | some c => some (.v (.c c)) | none => none
def evH (sl : List (Nat × SV)) : Operand → Option SV
  | .tmp t => getH sl t
  | .const v => constS v
  | .func f => some (.v (.c (.fn f)))
  | .global _ => none
section
variable {g : Gh} {ρ : Env} {bl : List BV}
theorem constC_real {v : Value} {c : CV} (h : constC v = some c) : RealC g ρ bl c v := by
  unfold constC at h
  split at h
  · rename_i k x
    cases e : inKb k x with
    | true => rw [e] at h; injection h with h; subst h; exact ⟨rfl, inKb_ok e⟩
    | false => rw [e] at h; cases h
  · injection h with h; subst h; rfl
  · rename_i b
    cases e : Nat.ble b.data.toList.length 140737488355328 with
    | true => rw [e] at h; injection h with h; subst h; exact ⟨rfl, Nat.le_of_ble_eq_true e⟩
    | false => rw [e] at h; cases h
  · rename_i u _ _ _
    cases e : constant v with
    | true => rw [e] at h; injection h with h; subst h; exact ⟨rfl, e⟩
    | false => rw [e] at h; cases h
theorem constL_real : ∀ {l : List Value} {m : List CV}, constL l = some m → All2 (RealC g ρ bl) m l
  | [], m, h => by injection h with h; subst h; trivial
  | v :: l, m, h => by
    unfold constL at h
    split at h
    · rename_i c m' h1 h2
      injection h with h; subst h
      exact ⟨constC_real h1, constL_real h2⟩
    · cases h
theorem constS_real {v : Value} {s : SV} (h : constS v = some s) : RealS g ρ bl s v := by
  unfold constS at h
  split at h
  · rename_i cs
    split at h
    · rename_i l e
      injection h with h; subst h
      exact ⟨cs.toList, by simp, constL_real e⟩
    · cases h
  · split at h
    · rename_i c e
      injection h with h; subst h
      exact constC_real e
    · cases h
theorem evH_real {sl : List (Nat × SV)} {own : Own} {fr : Sl} (h : Rl g ρ ⟨sl, bl⟩ own fr) {x : Operand} {s : SV} (e : evH sl x = some s) : ∃ v, evS fr x = some v ∧ RealS g ρ bl s v := by
  cases x with
  | tmp t => exact h.slot t s e
  | const v => exact ⟨v, rfl, constS_real e⟩
  | func f => injection e with e; subst e; exact ⟨_, rfl, rfl⟩
  | global _ => cases e
end
end Go.Proofs.YtpleflcfaecojaaGreat
