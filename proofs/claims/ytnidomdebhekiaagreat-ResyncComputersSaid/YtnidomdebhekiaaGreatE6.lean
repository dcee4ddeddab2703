/-
The engine, part 6: a region that draws its order. What only reads is taken first, as long as the world holds what is read (after Derived/OrdersHeld.lean, with the condition asked only behind operations that may come ahead of what is taken first). Conditions: each lemma's own.
-/
import Derived.Test.YtnidomdebhekiaaGreatE5
import Derived.OrdersHeld
namespace Go.Proofs.YtnidomdebhekiaaGreat
set_option linter.unusedVariables false
set_option linter.unusedSimpArgs false
open Go.RowKit
def finOk (ops : Array Oper) (lds fin : List Nat) : Bool := fin.all fun k => match ops[k]? with
  | some o => lds.all fun i => o.after.any fun e => Region.binds .any e && e.on == i
  | none => true
theorem finOk_spec {ops : Array Oper} {lds fin : List Nat} (h : finOk ops lds fin = true) {k i : Nat} {o : Oper} (hk : k ∈ fin) (ho : ops[k]? = some o) (hi : i ∈ lds) : ∃ e ∈ o.after, Region.binds .any e = true ∧ e.on = i := by
  have h1 := List.all_eq_true.1 h k hk
  rw [ho] at h1
  have h2 := List.all_eq_true.1 h1 i hi
  obtain ⟨e, he, hb⟩ := Array.any_eq_true'.1 h2
  simp only [Bool.and_eq_true, beq_iff_eq] at hb
  exact ⟨e, he, hb.1, hb.2⟩
section
variable {P : Program} {ops : Array Oper} {Q : Exit → Act → World → Prop} {S : World → Prop} {lds fin : List Nat}
def wpAnyL (P : Program) (ops : Array Oper) (Q : Exit → Act → World → Prop) (fin : List Nat) (S : World → Prop) : Nat → Array Bool → Act → World → Prop
  | 0, listed, a, w => Region.ready .any ops listed = [] ∧ Q .normal a w
  | fuel + 1, listed, a, w =>
    (Region.ready .any ops listed = [] → Q .normal a w) ∧
    ∀ i ∈ Region.ready .any ops listed, wpOp P ops Q i (fun a' w' => (i ∉ fin → S w → S w') ∧ wpAnyL P ops Q fin S fuel (listed.setIfInBounds i true) a' w') a w
theorem wpAny_of_L : ∀ (fuel : Nat) (listed : Array Bool) (a : Act) (w : World), wpAnyL P ops Q fin S fuel listed a w → wpAny P .any ops Q fuel listed a w
  | 0, _, _, _, h => h
  | fuel + 1, _, _, _, h => ⟨h.1, fun i hi => wpOp_mono (fun a' w' h' => wpAny_of_L fuel _ a' w' h'.2) (h.2 i hi)⟩
theorem wpAnyL_first {i : Nat} {oi : Oper} {v : Value} (hfin : finOk ops lds fin = true) (hl : i ∈ lds) (hi : ops[i]? = some oi) (hsel : ∀ (j : Nat) (o : Oper) cs b, ops[j]? = some o → o.op ≠ .select cs b)
    (hQ : ∀ c a w, Q (.panic c) (a.put oi.dst v) w → Q (.panic c) a w) :
    ∀ (fuel : Nat) (listed : Array Bool) (a : Act) (w : World),
      (∀ j oj, ops[j]? = some oj → j ≠ i → listed.getD j true = false → (∀ e ∈ oj.after, Region.binds .any e = true → e.on ≠ i) → oi.apart ops oj = true) →
      i ∈ Region.ready .any ops listed → YieldsIf P ops S oi v a → S w →
      wpAnyL P ops Q fin S fuel (listed.setIfInBounds i true) (a.put oi.dst v) w → wpAnyL P ops Q fin S (fuel + 1) listed a w := by
  intro fuel
  induction fuel with
  | zero =>
    intro listed a w _ hr hy hS H
    refine ⟨fun h => (by rw [h] at hr; cases hr), fun j hj => ?_⟩
    by_cases hji : j = i
    · subst hji; exact hy.wpOp hi hS ⟨fun _ h => h, H⟩
    · have := ready_mono hj hji
      rw [H.1] at this
      cases this
  | succ fuel ih =>
    intro listed a w hfree hr hy hS H
    refine ⟨fun h => (by rw [h] at hr; cases hr), fun j hj => ?_⟩
    by_cases hji : j = i
    · subst hji; exact hy.wpOp hi hS ⟨fun _ h => h, H⟩
    · have h1 := H.2 j (ready_mono hj hji)
      obtain ⟨hjun, oj, hoj, hall⟩ := mem_ready.1 hj
      have hiun := (mem_ready.1 hr).1
      have hnot : ∀ e ∈ oj.after, Region.binds .any e = true → e.on ≠ i := fun e he hb heq => by
        have h1 := hall e he hb
        rw [heq] at h1
        rcases Nat.lt_or_ge i listed.size with h' | h'
        · simp [h'] at hiun h1; rw [hiun] at h1; cases h1
        · simp [Array.getElem?_eq_none h'] at h1
      have h2 := wpOp_putIf hoj (hfree j oj hoj hji hjun hnot) (fun cs b => hsel i oi cs b hi) (fun cs b => hsel j oj cs b hoj) hQ hy h1
      have hfree' : ∀ k ok, ops[k]? = some ok → k ≠ i → (listed.setIfInBounds j true).getD k true = false →
          (∀ e ∈ ok.after, Region.binds .any e = true → e.on ≠ i) → oi.apart ops ok = true := fun k ok hk hki hun hno => by
        refine hfree k ok hk hki ?_ hno
        by_cases hjk : j = k
        · subst hjk; exact hjun
        · rw [getD_set_ne true hjk] at hun; exact hun
      refine wpOp_mono (fun a' w' h3 => ?_) h2
      obtain ⟨hy', hS3, h4⟩ := h3
      have hS' : S w' := hS3 (fun hjf => by
        obtain ⟨e, he, hb, heq⟩ := finOk_spec hfin hjf hoj hl
        exact hnot e he hb heq) hS
      refine ⟨fun _ _ => hS', ih (listed.setIfInBounds j true) a' w' hfree' (ready_mono hr (Ne.symm hji)) hy' hS' ?_⟩
      rw [Array.setIfInBounds_comm _ _ hji]
      exact h4
theorem wpAnyL_first0 {i : Nat} {oi : Oper} {v : Value} (hi : ops[i]? = some oi) (hsel : ∀ (j : Nat) (o : Oper) cs b, ops[j]? = some o → o.op ≠ .select cs b)
    (hQ : ∀ c a w, Q (.panic c) (a.put oi.dst v) w → Q (.panic c) a w) :
    ∀ (fuel : Nat) (listed : Array Bool) (a : Act) (w : World),
      (∀ j oj, ops[j]? = some oj → j ≠ i → listed.getD j true = false → (∀ e ∈ oj.after, Region.binds .any e = true → e.on ≠ i) → oi.apart ops oj = true) →
      i ∈ Region.ready .any ops listed → YieldsIf P ops (fun _ => True) oi v a →
      wpAnyL P ops Q fin S fuel (listed.setIfInBounds i true) (a.put oi.dst v) w → wpAnyL P ops Q fin S (fuel + 1) listed a w := by
  intro fuel
  induction fuel with
  | zero =>
    intro listed a w _ hr hy H
    refine ⟨fun h => (by rw [h] at hr; cases hr), fun j hj => ?_⟩
    by_cases hji : j = i
    · subst hji; exact hy.wpOp hi trivial ⟨fun _ h => h, H⟩
    · have := ready_mono hj hji
      rw [H.1] at this
      cases this
  | succ fuel ih =>
    intro listed a w hfree hr hy H
    refine ⟨fun h => (by rw [h] at hr; cases hr), fun j hj => ?_⟩
    by_cases hji : j = i
    · subst hji; exact hy.wpOp hi trivial ⟨fun _ h => h, H⟩
    · have h1 := H.2 j (ready_mono hj hji)
      obtain ⟨hjun, oj, hoj, hall⟩ := mem_ready.1 hj
      have hiun := (mem_ready.1 hr).1
      have hnot : ∀ e ∈ oj.after, Region.binds .any e = true → e.on ≠ i := fun e he hb heq => by
        have h1 := hall e he hb
        rw [heq] at h1
        rcases Nat.lt_or_ge i listed.size with h' | h'
        · simp [h'] at hiun h1; rw [hiun] at h1; cases h1
        · simp [Array.getElem?_eq_none h'] at h1
      have h2 := wpOp_putIf hoj (hfree j oj hoj hji hjun hnot) (fun cs b => hsel i oi cs b hi) (fun cs b => hsel j oj cs b hoj) hQ hy h1
      have hfree' : ∀ k ok, ops[k]? = some ok → k ≠ i → (listed.setIfInBounds j true).getD k true = false →
          (∀ e ∈ ok.after, Region.binds .any e = true → e.on ≠ i) → oi.apart ops ok = true := fun k ok hk hki hun hno => by
        refine hfree k ok hk hki ?_ hno
        by_cases hjk : j = k
        · subst hjk; exact hjun
        · rw [getD_set_ne true hjk] at hun; exact hun
      refine wpOp_mono (fun a' w' h3 => ?_) h2
      obtain ⟨hy', hS3, h4⟩ := h3
      refine ⟨hS3, ih (listed.setIfInBounds j true) a' w' hfree' (ready_mono hr (Ne.symm hji)) hy' ?_⟩
      rw [Array.setIfInBounds_comm _ _ hji]
      exact h4
theorem wpAnyL_take {i : Nat} {oi : Oper} {v : Value} {fuel : Nat} {listed : Array Bool} {a : Act} {w : World} (hfin : finOk ops lds fin = true) (hl : i ∈ lds) (hi : ops[i]? = some oi)
    (hs : Region.noSelect ops = true) (hf : Region.free .any ops listed i = true) (hr : (Region.ready .any ops listed).contains i = true)
    (hQ : ∀ c a w, Q (.panic c) (a.put oi.dst v) w → Q (.panic c) a w) (hy : YieldsIf P ops S oi v a) (hS : S w)
    (h : wpAnyL P ops Q fin S fuel (listed.setIfInBounds i true) (a.put oi.dst v) w) : wpAnyL P ops Q fin S (fuel + 1) listed a w :=
  wpAnyL_first hfin hl hi (Region.noSelect_spec hs) hQ fuel listed a w (Region.free_spec hi hf) (by simpa using hr) hy hS h
theorem wpAnyL_take0 {i : Nat} {oi : Oper} {v : Value} {fuel : Nat} {listed : Array Bool} {a : Act} {w : World} (hi : ops[i]? = some oi)
    (hs : Region.noSelect ops = true) (hf : Region.free .any ops listed i = true) (hr : (Region.ready .any ops listed).contains i = true)
    (hQ : ∀ c a w, Q (.panic c) (a.put oi.dst v) w → Q (.panic c) a w) (hy : YieldsIf P ops (fun _ => True) oi v a)
    (h : wpAnyL P ops Q fin S fuel (listed.setIfInBounds i true) (a.put oi.dst v) w) : wpAnyL P ops Q fin S (fuel + 1) listed a w :=
  wpAnyL_first0 hi (Region.noSelect_spec hs) hQ fuel listed a w (Region.free_spec hi hf) (by simpa using hr) hy h
end
section
variable {P : Program} {ops : Array Oper} {Q : Exit → Act → World → Prop} {n : Nat} {lds fin : List Nat} {p : Psi} {K : Own}
abbrev WPa (P : Program) (ops : Array Oper) (Q : Exit → Act → World → Prop) (lds fin : List Nat) (p : Psi) (K : Own) (fuel : Nat) (listed : List Bool) (n : Nat) (g : Gh) (own : Own) (sl : Sl) : Prop :=
  WPq (wpAnyL P ops Q fin (fun w => Rdw w p K) fuel listed.toArray) n g own sl
structure RegOk (P : Program) (ops : Array Oper) (Q : Exit → Act → World → Prop) (lds fin : List Nat) : Prop where
  fin : finOk ops lds fin = true
  sel : Region.noSelect ops = true
  panic : ∀ c (a : Act) (d : Tmp) (v : Value) w, Q (.panic c) (a.put (some d) v) w → Q (.panic c) a w
theorem wpa_start {c : Code} {id : Nat} {g : Gh} {own : Own} {sl : Sl} (h : c = .region id ops true) (hm : P.follows .mixedOrders = true) (lds fin : List Nat) (K : Own) (h1 : finOk ops lds fin = true) (h2 : Region.noSelect ops = true)
    (h3 : ∀ c (a : Act) (d : Tmp) (v : Value) w, Q (.panic c) (a.put (some d) v) w → Q (.panic c) a w) (sz : Nat) (hsz : ops.size = sz)
    (k : RegOk P ops Q lds fin → WPa P ops Q lds fin g.r K sz (List.replicate sz false) n g own sl) : WPc P c Q n g own sl := by
  subst h
  intro a w hf hs
  refine wp_region_any hm (wpAny_of_L (fin := fin) (S := fun w => Rdw w g.r K) _ _ _ _ ?_)
  have := k ⟨h1, h2, h3⟩ a w.drew hf hs.drew
  rw [hsz, ← List.toArray_replicate]
  exact this
def setL : List Bool → Nat → List Bool
  | [], _ => []
  | _ :: l, 0 => true :: l
  | b :: l, i + 1 => b :: setL l i
theorem setL_eq : ∀ (l : List Bool) (i : Nat), l.toArray.setIfInBounds i true = (setL l i).toArray := by
  intro l i
  rw [List.setIfInBounds_toArray]
  congr 1
  induction l generalizing i with
  | nil => rfl
  | cons b l ih => cases i with
    | zero => rfl
    | succ i => simp [setL, ih]
def readyL (ops : Array Oper) (listed : List Bool) : List Nat := Region.ready .any ops listed.toArray
def keepK (K own : Own) : Prop := ∀ k, some k ∈ K → some k ∈ own
theorem wpa_take {g : Gh} {own : Own} {sl : Sl} {fuel : Nat} {listed : List Bool} (i : Nat) (listed' : List Bool) (d : Tmp) (op : Op) (ty : TypeId) (v : Value) (R : RegOk P ops Q lds fin) (hr : Runs ops i sl (some d) op ty)
    (hb : (Nat.blt d n && (lds.contains i && (Region.free .any ops listed.toArray i && (readyL ops listed).contains i))) = true) (hset : setL listed i = listed') (hle : p.le g.r) (hK : keepK K own) (hy : Yld P n p K sl op ty v)
    (k : WPa P ops Q lds fin p K fuel listed' n g own ((d, v) :: sl)) : WPa P ops Q lds fin p K (fuel + 1) listed n g own sl := by
  intro a w hfr hs
  simp only [Bool.and_eq_true] at hb
  obtain ⟨hd, hl, hf, hrd⟩ := hb
  obtain ⟨o, h1, h2, h3, h4, h5⟩ := hr.out
  refine wpAnyL_take (oi := o) (v := v) R.fin (by simpa using hl) h1 R.sel hf hrd (by rw [h2]; exact fun c a w => R.panic c a d v w) (.inl ⟨h5 n a hfr, fun w hw => hy o a w h3 h4 hfr hw⟩) ⟨hs.r.mono hle, fun k hk => hs.has k (hK k hk)⟩ ?_
  rw [setL_eq, hset, h2]
  exact k _ w (hfr.put (by simpa using hd) v) hs
def psi00 (w : World) : Psi := ⟨fun _ => none, w.os, w.tape, w.output⟩
theorem wpa_take0 {g : Gh} {own : Own} {sl : Sl} {fuel : Nat} {listed : List Bool} (i : Nat) (listed' : List Bool) (d : Tmp) (op : Op) (ty : TypeId) (v : Value) (R : RegOk P ops Q lds fin) (hr : Runs ops i sl (some d) op ty)
    (hb : (Nat.blt d n && (Region.free .any ops listed.toArray i && (readyL ops listed).contains i)) = true) (hset : setL listed i = listed') (hy : ∀ p, Yld P n p [] sl op ty v)
    (k : WPa P ops Q lds fin p K fuel listed' n g own ((d, v) :: sl)) : WPa P ops Q lds fin p K (fuel + 1) listed n g own sl := by
  intro a w hfr hs
  simp only [Bool.and_eq_true] at hb
  obtain ⟨hd, hf, hrd⟩ := hb
  obtain ⟨o, h1, h2, h3, h4, h5⟩ := hr.out
  refine wpAnyL_take0 (oi := o) (v := v) h1 R.sel hf hrd (by rw [h2]; exact fun c a w => R.panic c a d v w) (.inl ⟨h5 n a hfr, fun w hw => hy (psi00 w) o a w h3 h4 hfr ⟨⟨rfl, rfl, rfl, fun b o h => by cases h⟩, fun k hk => by cases hk⟩⟩) ?_
  rw [setL_eq, hset, h2]
  exact k _ w (hfr.put (by simpa using hd) v) hs
theorem wpa_takeSkip0 {g : Gh} {own : Own} {sl : Sl} {fuel : Nat} {listed : List Bool} (i : Nat) (listed' : List Bool) (d : Tmp) (R : RegOk P ops Q lds fin) (hr : Skips ops i sl (some d))
    (hb : (Nat.blt d n && (Region.free .any ops listed.toArray i && (readyL ops listed).contains i)) = true) (hset : setL listed i = listed')
    (k : WPa P ops Q lds fin p K fuel listed' n g own ((d, undef) :: sl)) : WPa P ops Q lds fin p K (fuel + 1) listed n g own sl := by
  intro a w hfr hs
  simp only [Bool.and_eq_true] at hb
  obtain ⟨hd, hf, hrd⟩ := hb
  obtain ⟨o, h1, h2, h5⟩ := hr.out
  refine wpAnyL_take0 (oi := o) (v := undef) h1 R.sel hf hrd (by rw [h2]; exact fun c a w => R.panic c a d undef w) (.inr ⟨h5 n a hfr, rfl⟩) ?_
  rw [setL_eq, hset, h2]
  exact k _ w (hfr.put (by simpa using hd) undef) hs
abbrev WPi (P : Program) (ops : Array Oper) (Q : Exit → Act → World → Prop) (lds fin : List Nat) (p : Psi) (K : Own) (fuel : Nat) (listed : List Bool) (i : Nat) (n : Nat) (g : Gh) (own : Own) (sl : Sl) : Prop :=
  WPq (fun a w => wpOp P ops Q i (fun a' w' => (i ∉ fin → Rdw w p K → Rdw w' p K) ∧ wpAnyL P ops Q fin (fun w => Rdw w p K) fuel (listed.toArray.setIfInBounds i true) a' w') a w) n g own sl
theorem wpa_one {g : Gh} {own : Own} {sl : Sl} {fuel : Nat} {listed : List Bool} (i : Nat) (hr : readyL ops listed = [i]) (k : WPi P ops Q lds fin p K fuel listed i n g own sl) : WPa P ops Q lds fin p K (fuel + 1) listed n g own sl := by
  intro a w hf hs
  have hr : Region.ready .any ops listed.toArray = [i] := hr
  refine ⟨fun h => (by rw [hr] at h; cases h), fun j hj => ?_⟩
  rw [hr] at hj
  simp only [List.mem_singleton] at hj
  subst hj
  exact k a w hf hs
theorem wpa_two {g : Gh} {own : Own} {sl : Sl} {fuel : Nat} {listed : List Bool} (i i2 : Nat) (hr : readyL ops listed = [i, i2]) (k : WPi P ops Q lds fin p K fuel listed i n g own sl) (k2 : WPi P ops Q lds fin p K fuel listed i2 n g own sl) : WPa P ops Q lds fin p K (fuel + 1) listed n g own sl := by
  intro a w hf hs
  have hr : Region.ready .any ops listed.toArray = [i, i2] := hr
  refine ⟨fun h => (by rw [hr] at h; cases h), fun j hj => ?_⟩
  rw [hr] at hj
  simp only [List.mem_cons, List.mem_nil_iff, or_false] at hj
  rcases hj with rfl | rfl
  · exact k a w hf hs
  · exact k2 a w hf hs
theorem wpa_three {g : Gh} {own : Own} {sl : Sl} {fuel : Nat} {listed : List Bool} (i i2 i3 : Nat) (hr : readyL ops listed = [i, i2, i3]) (k : WPi P ops Q lds fin p K fuel listed i n g own sl) (k2 : WPi P ops Q lds fin p K fuel listed i2 n g own sl) (k3 : WPi P ops Q lds fin p K fuel listed i3 n g own sl) : WPa P ops Q lds fin p K (fuel + 1) listed n g own sl := by
  intro a w hf hs
  have hr : Region.ready .any ops listed.toArray = [i, i2, i3] := hr
  refine ⟨fun h => (by rw [hr] at h; cases h), fun j hj => ?_⟩
  rw [hr] at hj
  simp only [List.mem_cons, List.mem_nil_iff, or_false] at hj
  rcases hj with rfl | rfl | rfl
  · exact k a w hf hs
  · exact k2 a w hf hs
  · exact k3 a w hf hs
theorem wpi_val {g : Gh} {own : Own} {sl : Sl} {fuel : Nat} {listed : List Bool} {i : Nat} (listed' : List Bool) (d : Tmp) (op : Op) (ty : TypeId) (v : Value) (hr : Runs ops i sl (some d) op ty) (hd : Nat.blt d n = true)
    (hy : Yld P n g.r own sl op ty v) (hset : setL listed i = listed') (k : WPa P ops Q lds fin p K fuel listed' n g own ((d, v) :: sl)) : WPi P ops Q lds fin p K fuel listed i n g own sl := by
  intro a w hf hs
  obtain ⟨o, h1, h2, h3, h4, h5⟩ := hr.out
  unfold wpOp
  simp only [h1, h5 n a hf, if_true]
  left
  simp only [Oper.wp, hy o a w h3 h4 hf hs.rdw, Oper.upon, h2]
  refine ⟨fun _ h => h, ?_⟩
  rw [setL_eq, hset]
  exact k _ w (hf.put (by simpa using hd) v) hs
theorem wpi_skip {g : Gh} {own : Own} {sl : Sl} {fuel : Nat} {listed : List Bool} {i : Nat} (listed' : List Bool) (d : Tmp) (hr : Skips ops i sl (some d)) (hd : Nat.blt d n = true)
    (hset : setL listed i = listed') (k : WPa P ops Q lds fin p K fuel listed' n g own ((d, undef) :: sl)) : WPi P ops Q lds fin p K fuel listed i n g own sl := by
  intro a w hf hs
  obtain ⟨o, h1, h2, h5⟩ := hr.out
  unfold wpOp
  simp only [h1, h5 n a hf, Bool.false_eq_true, if_false, h2]
  refine ⟨fun _ h => h, ?_⟩
  rw [setL_eq, hset]
  exact k _ w (hf.put (by simpa using hd) undef) hs
theorem wpi_eff {g : Gh} {own : Own} {sl : Sl} {fuel : Nat} {listed : List Bool} {i : Nat} (listed' : List Bool) (d : Tmp) (op : Op) (ty : TypeId) {R : Value → Gh → Own → Prop} (hr : Runs ops i sl (some d) op ty) (hd : Nat.blt d n = true) (hle : p.le g.r)
    (hy : Eff P n g own sl op ty R) (hset : setL listed i = listed') (k : ∀ v g' own', g.le g' → R v g' own' → (fin.contains i = true ∨ keepK K own') ∧ WPa P ops Q lds fin p K fuel listed' n g' own' ((d, v) :: sl)) : WPi P ops Q lds fin p K fuel listed i n g own sl := by
  intro a w hf hs
  obtain ⟨o, h1, h2, h3, h4, h5⟩ := hr.out
  unfold wpOp
  simp only [h1, h5 n a hf, if_true]
  left
  refine hy o a w _ _ h3 h4 hf hs fun v g' own' w' hg hs' hR => ?_
  obtain ⟨hk, hw⟩ := k v g' own' hg hR
  refine ⟨fun hni _ => ?_, ?_⟩
  · rcases hk with hk | hk
    · exact absurd (by simpa using hk) hni
    · exact ⟨hs'.r.mono (hle.trans hg.r), fun k hk2 => hs'.has k (hk k hk2)⟩
  · rw [setL_eq, hset, h2]
    exact hw _ w' (hf.put (by simpa using hd) v) hs'
theorem wpi_do {g : Gh} {own : Own} {sl : Sl} {fuel : Nat} {listed : List Bool} {i : Nat} (listed' : List Bool) (op : Op) (ty : TypeId) {R : Value → Gh → Own → Prop} (hr : Runs ops i sl none op ty) (hle : p.le g.r)
    (hy : Eff P n g own sl op ty R) (hset : setL listed i = listed') (k : ∀ v g' own', g.le g' → R v g' own' → (fin.contains i = true ∨ keepK K own') ∧ WPa P ops Q lds fin p K fuel listed' n g' own' sl) : WPi P ops Q lds fin p K fuel listed i n g own sl := by
  intro a w hf hs
  obtain ⟨o, h1, h2, h3, h4, h5⟩ := hr.out
  unfold wpOp
  simp only [h1, h5 n a hf, if_true]
  left
  refine hy o a w _ _ h3 h4 hf hs fun v g' own' w' hg hs' hR => ?_
  obtain ⟨hk, hw⟩ := k v g' own' hg hR
  refine ⟨fun hni _ => ?_, ?_⟩
  · rcases hk with hk | hk
    · exact absurd (by simpa using hk) hni
    · exact ⟨hs'.r.mono (hle.trans hg.r), fun k hk2 => hs'.has k (hk k hk2)⟩
  · rw [setL_eq, hset, h2]
    exact hw _ w' hf hs'
theorem wpa_done {g : Gh} {own : Own} {sl : Sl} {fuel : Nat} {listed : List Bool} (hr : readyL ops listed = []) (k : WPq (Q .normal) n g own sl) : WPa P ops Q lds fin p K fuel listed n g own sl := by
  intro a w hf hs
  have hr : Region.ready .any ops listed.toArray = [] := hr
  have hk := k a w hf hs
  cases fuel with
  | zero => exact ⟨hr, hk⟩
  | succ f => exact ⟨fun _ => hk, by rw [hr]; simp⟩
end
end Go.Proofs.YtnidomdebhekiaaGreat
