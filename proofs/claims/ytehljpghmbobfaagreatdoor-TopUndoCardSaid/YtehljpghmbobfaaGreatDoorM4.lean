/-
TopUndo returns true for every input. Conditions: none.
-/
import Derived.Test.YtehljpghmbobfaaGreatDoorM3
import Derived.LaidMore
import Derived.Stop.Joined
import Derived.Stop.LaidErr
import Derived.Test.YtehljpghmbobfaaGreatDoorRows
import Derived.Test.YtehljpghmbobfaaGreatDoorTie
import Derived.Test.YtehljpghmbobfaaGreatDoorCards
import Derived.SevenTiedAt
namespace Go.Proofs.YtehljpghmbobfaaGreatDoor
set_option linter.unusedVariables false
set_option linter.unusedSimpArgs false
set_option maxRecDepth 100000
open Go.RowKit
def Tot {α : Type} (Q : α → Prop) (x : Option α) : Prop := ∃ r, x = some r ∧ Q r
def CP {α β : Type} (P : α → Prop) (Q : β → Prop) : Ctl α β → Prop
  | .go t => P t
  | .done r => Q r
section
variable {α β σ : Type} {P : α → Prop} {Q : β → Prop}
theorem tS {r : β} (h : Q r) : Tot Q (some r) := ⟨r, rfl, h⟩
theorem tW {x : Option β} {R : β → Prop} (h : Tot R x) (hp : ∀ r, R r → Q r) : Tot Q x := by
  obtain ⟨r, e, k⟩ := h
  exact ⟨r, e, hp r k⟩
theorem tB {x : Option α} {k : α → Option β} (h : Tot P x) (k1 : ∀ t, P t → Tot Q (k t)) : Tot Q (bd x k) := by
  obtain ⟨t, rfl, ht⟩ := h
  exact k1 t ht
theorem tBT {x : Option α} {k : α → Option β} (h : Tot (fun _ => True) x) (k1 : ∀ t, Tot Q (k t)) : Tot Q (bd x k) := tB h fun t _ => k1 t
theorem tI {t : α} {k : α → Option β} (h : Tot Q (k t)) : Tot Q (bd (some t) k) := h
theorem tC {c : Bool} {x y : Option β} (h1 : c = true → Tot Q x) (h2 : c = false → Tot Q y) : Tot Q (cnd c x y) := by
  cases c with
  | true => exact h1 rfl
  | false => exact h2 rfl
theorem tG {c : Bool} {x : Option β} (h : c = true) (k : Tot Q x) : Tot Q (gd c x) := by subst h; exact k
theorem tGo {t : α} (h : P t) : Tot (CP P Q) (some (.go t)) := ⟨_, rfl, h⟩
theorem tDn {x : Option β} (h : Tot Q x) : Tot (CP P Q) (dnO x) := by
  obtain ⟨r, rfl, hr⟩ := h
  exact ⟨_, rfl, hr⟩
theorem tJ {x : Option (Ctl α β)} {k : α → Option β} (h : Tot (CP P Q) x) (k1 : ∀ t, P t → Tot Q (k t)) : Tot Q (jd x k) := by
  obtain ⟨c, rfl, hc⟩ := h
  cases c with
  | go t => exact k1 t hc
  | done r => exact ⟨r, rfl, hc⟩
theorem tL {B : σ → Option (Ctl σ β)} (I : σ → Prop) (m : σ → Nat) (h : ∀ s, I s → Tot (CP (fun s' => I s' ∧ m s' < m s) Q) (B s)) {s0 : σ} (h0 : I s0) (hm : m s0 < 18446744073709551615) : Tot Q (loopO fuelN B s0) := by
  refine loop_meas I m (fun s hs => ?_) h0 hm
  obtain ⟨c, e, hc⟩ := h s hs
  cases c with
  | go t => exact .inl ⟨t, e, hc.1, hc.2⟩
  | done r => exact .inr ⟨r, e, hc⟩
end
theorem dT {p : Prop} [Decidable p] (h : decide p = true) : p := of_decide_eq_true h
theorem dF {p : Prop} [Decidable p] (h : decide p = false) : ¬ p := of_decide_eq_false h
theorem eT {a b : Int} (h : (a == b) = true) : a = b := by simpa using h
theorem eF {a b : Int} (h : (a == b) = false) : a ≠ b := by simpa using h
theorem nT {a b : Int} (h : (a != b) = true) : a ≠ b := by simpa using h
theorem nF {a b : Int} (h : (a != b) = false) : a = b := by simpa using h
theorem notT {a : Bool} (h : (!a) = true) : a = false := by simpa using h
theorem notF {a : Bool} (h : (!a) = false) : a = true := by simpa using h
theorem sT {a b : List UInt8} (h : (a == b) = true) : a = b := by simpa using h

theorem ixB_bd (c : UInt8) : ∀ (s : List UInt8) (k : Int), 0 ≤ k → ixB c s k = -1 ∨ (k ≤ ixB c s k ∧ ixB c s k < k + s.length)
  | [], k, _ => .inl rfl
  | b :: l, k, hk => by
    unfold ixB
    have hl : ((b :: l).length : Int) = (l.length : Int) + 1 := by simp
    cases e : (b == c) with
    | true => exact .inr ⟨Int.le_refl _, by rw [cond_true]; omega⟩
    | false =>
      rw [cond_false]
      rcases ixB_bd c l (k + 1) (by omega) with h | ⟨h1, h2⟩
      · exact .inl h
      · exact .inr ⟨by omega, by omega⟩
theorem o89_t (s : List UInt8) (c : UInt8) : Tot (fun r : Int => r = -1 ∨ (0 ≤ r ∧ r < s.length)) (o89 s [c]) := by
  unfold o89
  refine tB (P := fun v => v.1.1 = s ∧ v.1.2 = [c] ∧ v.2.1 = 1 ∧ v.2.2 = ([c] == s) ∨ v.2.2 = true ∧ 0 < s.length ∧ v.1.1 = s) ?_ fun v hv => ?_
  · exact tC (fun h => by cases h) fun h => tS (.inl ⟨rfl, rfl, rfl, rfl⟩)
  · refine tC (fun h => tS ?_) fun h => ?_
    · rcases hv with ⟨_, _, _, h4⟩ | ⟨_, h4, _⟩
      · rw [h] at h4
        have : [c] = s := by simpa using h4.symm
        subst this
        exact .inr ⟨by decide, by simp⟩
      · exact .inr ⟨by decide, by omega⟩
    · rcases hv with ⟨h1, h2, h3, h4⟩ | ⟨h4, _⟩
      · rw [h3]
        refine tC (fun _ => ?_) fun h => by cases h
        rw [h2]
        refine tG (dt (by simp)) ?_
        refine tI (tS ?_)
        rw [h1]
        have := ixB_bd (u8 (((List.getD [c] (0 : Int).toNat 0).toNat : Nat) : Int)) s 0 (Int.le_refl 0)
        simpa using this
      · rw [h] at h4; cases h4
theorem o75_t (s : List UInt8) (c : UInt8) (hs : s.length ≤ 140737488355328) : Tot (fun v => v.1.length ≤ s.length ∧ v.2.1.length ≤ s.length ∧ (v.2.2 = true → s.length = v.1.length + 1 + v.2.1.length) ∧ (v.2.2 = false → v.1 = s)) (o75 s [c]) := by
  unfold o75
  refine tB (o89_t s c) fun r hr => ?_
  refine tC (fun h => ?_) fun h => tS ⟨Nat.le_refl _, Nat.zero_le _, fun h => (by cases h), fun _ => rfl⟩
  have h := dT h
  have hr : 0 ≤ r ∧ r < s.length := by omega
  have hw : IntKind.wrap .i64 (r + ((([c] : List UInt8).length : Nat) : Int)) = r + 1 := by
    rw [show ((([c] : List UInt8).length : Nat) : Int) = 1 from rfl]
    exact wr64 (by omega)
  rw [hw]
  refine tG (dt (by omega)) (tG (dt (by omega)) (tS ?_))
  simp only [List.length_take, List.length_drop]
  refine ⟨by omega, by omega, fun _ => by omega, fun h => by cases h⟩
theorem o50_t (s : List UInt8) (c : UInt8) (hs : s.length ≤ 140737488355328) : Tot (fun v => v.1.length ≤ s.length ∧ v.2.1.length ≤ s.length ∧ (v.2.2 = true → s.length = v.1.length + 1 + v.2.1.length) ∧ (v.2.2 = false → v.1 = s)) (o50 s [c]) := by
  unfold o50
  exact tB (o75_t s c hs) fun v hv => tS hv
theorem o51_t (s : List UInt8) (m : Int) (hs : s.length ≤ 140737488355328) : Tot (fun r => r = true → 0 < s.length ∧ (s.length : Int) ≤ m) (o51 s m) := by
  unfold o51
  refine tB (P := fun v => v.1 = s ∧ (v.2 = false → 0 < s.length ∧ (s.length : Int) ≤ m)) ?_ fun v hv => ?_
  · refine tC (fun _ => tS ⟨rfl, fun h => by cases h⟩) fun h1 => ?_
    have h1 := eF h1
    refine tC (fun _ => tS ⟨rfl, fun h => by cases h⟩) fun h2 => ?_
    have h2 := dF h2
    refine tG (dt (by omega)) (tC (fun _ => tS ⟨rfl, fun h => by cases h⟩) fun _ => tG (dt (by omega)) (tS ⟨rfl, fun _ => by omega⟩))
  · refine tC (fun _ => tS fun h => by cases h) fun h => ?_
    obtain ⟨h1, h2⟩ := hv
    have h2 := h2 h
    rw [h1]
    refine tL (fun t : List UInt8 × Int × Int => t.1 = s ∧ t.2.1 = s.length ∧ 0 ≤ t.2.2 ∧ t.2.2 ≤ s.length) (fun t => ((s.length : Int) - t.2.2).toNat) ?_ ⟨rfl, rfl, Int.le_refl _, by simp⟩ (by simp; omega)
    rintro ⟨t1, t2, t3⟩ ⟨e1, e2, h3, h4⟩
    dsimp only at e1 e2 h3 h4 ⊢
    subst e1; subst e2
    refine tC (fun h => ?_) fun h => tDn (tS fun _ => h2)
    have h := dT h
    refine tB (P := fun v => v.1.1 = t1 ∧ v.1.2 = (t1.length : Int) ∧ v.2.1 = t3) ?_ fun v hv => ?_
    · refine tG (dt (by omega)) ?_
      refine tC (fun _ => ?_) fun _ => ?_
      · exact tG (dt (by omega)) (tC (fun _ => tS ⟨rfl, rfl, rfl⟩) fun _ => tG (dt (by omega)) (tS ⟨rfl, rfl, rfl⟩))
      · exact tG (dt (by omega)) (tC (fun _ => tG (dt (by omega)) (tC (fun _ => tS ⟨rfl, rfl, rfl⟩) fun _ => tG (dt (by omega)) (tS ⟨rfl, rfl, rfl⟩))) fun _ => tS ⟨rfl, rfl, rfl⟩)
    · obtain ⟨e1, e2, e3⟩ := hv
      refine tC (fun _ => tDn (tS fun h => by cases h)) fun _ => tGo ?_
      rw [e1, e2, e3, wr64 (by omega)]
      dsimp only
      exact ⟨⟨rfl, rfl, by omega, by omega⟩, by omega⟩
theorem o27_t (s : List UInt8) (c : UInt8) (m : Int) (hs : s.length ≤ 140737488355328) : Tot (fun r => r = true → (s.length : Int) ≤ 2 * m + 1) (o27 s [c] m) := by
  unfold o27
  refine tB (o50_t s c hs) fun v hv => ?_
  refine tB (P := fun r => r = true → (s.length : Int) ≤ 2 * m + 1) ?_ fun r hr => tS hr
  refine tB (o51_t v.1 m (by omega)) fun r hr => ?_
  refine tC (fun h => ?_) fun h => tS fun h => by cases h
  have hr := hr h
  refine tC (fun h => ?_) fun h => ?_
  · have h := hv.2.2.2 (notT h)
    exact tS fun _ => by rw [← h]; omega
  · have h := hv.2.2.1 (notF h)
    refine tB (o51_t v.2.1 m (by omega)) fun r hr2 => tS fun h => ?_
    have := hr2 h
    omega
theorem o14_t (s : List UInt8) (hs : s.length ≤ 140737488355328) : Tot (fun r => r = true → s.length ≤ 13) (o14 s) := by
  unfold o14
  refine tB (P := fun r => r = true → s.length ≤ 13) ?_ fun r hr => tS hr
  refine tC (fun h => tS fun _ => by rw [sT h]; decide) fun _ => ?_
  exact tB (o27_t s 47 6 hs) fun r hr => tS fun h => by have := hr h; omega
theorem o30_t (s : List UInt8) (hs : s.length ≤ 140737488355328) : Tot (fun r => r = true → s.length ≤ 17) (o30 s) := by
  unfold o30
  refine tB (P := fun r => r = true → s.length ≤ 17) ?_ fun r hr => tS hr
  refine tC (fun h => tS fun _ => by rw [sT h]; decide) fun _ => ?_
  exact tB (o27_t s 46 8 hs) fun r hr => tS fun h => by have := hr h; omega
theorem o52_t (a : Int) : Tot (fun r => r = true → 1 ≤ a ∧ a ≤ 17) (o52 a) := by
  unfold o52
  refine tB (P := fun r => r = true → 1 ≤ a ∧ a ≤ 17) ?_ fun r hr => tS hr
  exact tC (fun h => tS fun h2 => by have h := dT h; have h2 := dT h2; omega) fun _ => tS fun h => by cases h
theorem o77_t (s : List UInt8) : Tot (fun r => r = true → s.length = 2) (o77 s) := by
  unfold o77
  refine tC (fun _ => tS fun h => by cases h) fun h => ?_
  have hl := nF h
  refine tL (fun t : List UInt8 × Int × Int => t.1 = s ∧ t.2.1 = s.length ∧ 0 ≤ t.2.2 ∧ t.2.2 ≤ s.length) (fun t => ((s.length : Int) - t.2.2).toNat) ?_ ⟨rfl, rfl, Int.le_refl _, by simp⟩ (by simp; omega)
  rintro ⟨t1, t2, t3⟩ ⟨e1, e2, h3, h4⟩
  dsimp only at e1 e2 h3 h4 ⊢
  subst e1; subst e2
  refine tC (fun h => ?_) fun h => tDn (tS fun _ => by omega)
  have h := dT h
  refine tB (P := fun v => v.1.1 = t1 ∧ v.1.2 = (t1.length : Int) ∧ v.2.1 = t3) ?_ fun v hv => ?_
  · refine tG (dt (by omega)) ?_
    refine tC (fun _ => ?_) fun _ => ?_
    · exact tG (dt (by omega)) (tC (fun _ => tS ⟨rfl, rfl, rfl⟩) fun _ => tG (dt (by omega)) (tS ⟨rfl, rfl, rfl⟩))
    · exact tG (dt (by omega)) (tC (fun _ => tG (dt (by omega)) (tC (fun _ => tS ⟨rfl, rfl, rfl⟩) fun _ => tG (dt (by omega)) (tS ⟨rfl, rfl, rfl⟩))) fun _ => tS ⟨rfl, rfl, rfl⟩)
  · obtain ⟨e1, e2, e3⟩ := hv
    refine tC (fun _ => tDn (tS fun h => by cases h)) fun _ => tGo ?_
    rw [e1, e2, e3, wr64 (by omega)]
    dsimp only
    exact ⟨⟨rfl, rfl, by omega, by omega⟩, by omega⟩
theorem o57_t (s : List UInt8) (hs : s.length ≤ 140737488355328) : Tot (fun v => v.2.2 = 0 → s.length ≤ 13) (o57 s) := by
  unfold o57
  refine tB (o50_t s 47 hs) fun v hv => ?_
  refine tC (fun _ => tS fun h => by cases h) fun h => ?_
  have h := hv.2.2.1 (notF h)
  refine tB (P := fun w => w.2.2 = false → s.length ≤ 13) ?_ fun w hw => tC (fun _ => tS fun h => by cases h) fun h => tS fun _ => hw h
  refine tB (o51_t v.1 6 (by omega)) fun r hr => ?_
  refine tC (fun _ => tS fun h => by cases h) fun h1 => ?_
  have hr := hr (notF h1)
  refine tB (o51_t v.2.1 6 (by omega)) fun r2 hr2 => ?_
  refine tC (fun _ => ?_) fun h2 => tS fun _ => by have := hr2 (notF h2); omega
  exact tB (o77_t v.2.1) fun r3 hr3 => tS fun h3 => by have := hr3 (notF h3); omega
theorem o53_t (s : List UInt8) (b : Bool) (hs : s.length ≤ 140737488355328) : Tot (fun r => r = 0 → s.length ≤ 13) (o53 s b) := by
  unfold o53
  refine tC (fun _ => ?_) fun _ => ?_
  · exact tB (o57_t s hs) fun v hv => tC (fun _ => tS fun h => by cases h) fun h => tS fun _ => hv (nF h)
  · exact tC (fun _ => tS fun h => by cases h) fun h => tS fun _ => by rw [sT (notF h)]; decide
theorem o54_t (a : Int) (b : Bool) (c d : Int) : Tot (fun _ => True) (o54 a b c d) := by
  unfold o54
  refine tB (P := fun _ => True) ?_ fun v _ => tC (fun _ => tS trivial) fun _ => tB (P := fun _ => True) (tC (fun _ => tS trivial) fun _ => tS trivial) fun _ _ => tC (fun _ => tS trivial) fun _ => tS trivial
  exact tC (fun _ => tC (fun _ => tS trivial) fun _ => tS trivial) fun _ => tS trivial
theorem tT {α : Type} {Q : α → Prop} {x : Option α} (h : Tot Q x) : Tot (fun _ => True) x := tW h fun _ _ => trivial
theorem o29_t (a : Int) : Tot (fun _ => True) (o29 a) := by
  unfold o29; repeat' (first | exact tS trivial | refine tC (fun _ => ?_) (fun _ => ?_) | refine tBT ?_ (fun _ => ?_))
theorem o31_t (a : Int × Int) : Tot (fun _ => True) (o31 a) := by
  unfold o31; repeat' (first | exact tS trivial | refine tC (fun _ => ?_) (fun _ => ?_) | refine tBT ?_ (fun _ => ?_))
theorem o16_t (a : Int) : Tot (fun r => r = true → a = 1 ∨ a = 3 ∨ a = 4) (o16 a) := by
  unfold o16
  refine tB (P := fun r => r = true → a = 1 ∨ a = 3 ∨ a = 4) ?_ fun r hr => tS hr
  exact tC (fun h => tS fun _ => .inl (eT h)) fun _ => tC (fun h => tS fun _ => .inr (.inl (eT h))) fun _ => tS fun h => .inr (.inr (eT h))
theorem o32_t (a b : Int) : Tot (fun _ => True) (o32 a b) := by
  unfold o32; repeat' (first | exact tS trivial | exact tT (o52_t _) | refine tC (fun _ => ?_) (fun _ => ?_) | refine tBT ?_ (fun _ => ?_))
theorem o33_t (a : Int) : Tot (fun _ => True) (o33 a) := by
  unfold o33; repeat' (first | exact tS trivial | refine tC (fun _ => ?_) (fun _ => ?_) | refine tBT ?_ (fun _ => ?_))
theorem o17_t (a b : Ty22ecb9) : Tot (fun _ => True) (o17 a b) := by
  unfold o17; repeat' (first | exact tS trivial | exact o32_t _ _ | exact o33_t _ | refine tC (fun _ => ?_) (fun _ => ?_) | refine tBT ?_ (fun _ => ?_))
theorem o34_t (a : Int) : Tot (fun _ => True) (o34 a) := by
  unfold o34; repeat' (first | exact tS trivial | refine tC (fun _ => ?_) (fun _ => ?_) | refine tBT ?_ (fun _ => ?_))
theorem o18_t (a b : Ty22ecb9) : Tot (fun _ => True) (o18 a b) := by
  unfold o18; repeat' (first | exact tS trivial | exact o34_t _ | refine tC (fun _ => ?_) (fun _ => ?_) | refine tBT ?_ (fun _ => ?_))
theorem o28_t (a : Ty22ecb9) (h1 : a.1.1.2.1.length ≤ 140737488355328) (h2 : a.1.1.2.2.length ≤ 140737488355328) : Tot (fun r => r = 0 → a.1.1.2.1.length ≤ 13 ∧ a.1.1.2.2.length ≤ 13) (o28 a) := by
  unfold o28
  refine tB (o52_t _) fun v hv => ?_
  refine tC (fun _ => tS fun h => by cases h) fun h => ?_
  have hv := hv (notF h)
  refine tG (dt (by omega)) ?_
  refine tB (o53_t _ _ h1) fun v2 hv2 => ?_
  refine tC (fun h => tS fun h2 => absurd h2 (nT h)) fun h => ?_
  have hv2 := hv2 (nF h)
  refine tB (o53_t _ _ h2) fun v3 hv3 => ?_
  refine tC (fun h => tS fun h2 => absurd h2 (nT h)) fun h => ?_
  have hv3 := hv3 (nF h)
  refine tW (R := fun _ => True) ?_ fun _ _ _ => ⟨hv2, hv3⟩
  refine tJ (P := fun _ => True) ?_ fun v5 _ => ?_
  · repeat' (first | exact tS trivial | exact tGo trivial | exact tDn (tS trivial) | refine tC (fun _ => ?_) (fun _ => ?_) | refine tBT ?_ (fun _ => ?_))
  · repeat' (first | exact tS trivial | exact o54_t _ _ _ _ | refine tC (fun _ => ?_) (fun _ => ?_) | refine tBT ?_ (fun _ => ?_))
theorem o15_t (a : Ty7661d1) (h1 : a.1.1.2.1.length ≤ 140737488355328) (h2 : a.1.1.2.2.1.length ≤ 140737488355328) (h3 : a.2.2.2.2.2.length ≤ 140737488355328) : Tot (fun _ => True) (o15 a) := by
  unfold o15
  refine tBT (tT (o28_t _ h1 h2)) fun v => ?_
  repeat' (first | exact tS trivial | exact o29_t _ | exact tT (o30_t _ h3) | exact o31_t _ | refine tC (fun _ => ?_) (fun _ => ?_) | refine tBT ?_ (fun _ => ?_))
def EOk (x : Tya2e0c9) : Prop := x.2.1.2.1.length ≤ 140737488355328 ∧ x.2.1.2.2.1.length ≤ 140737488355328 ∧ x.2.2.2.2.2.length ≤ 140737488355328
def LOk (l : List Tya2e0c9) : Prop := ∀ x ∈ l, EOk x
theorem getD_memE {α : Type} {l : List α} {i : Nat} {d : α} (h : i < l.length) : l.getD i d ∈ l := by
  rw [getD_of h]; exact List.getElem_mem h
theorem LOk.getD {l : List Tya2e0c9} (h : LOk l) {i : Nat} {d : Tya2e0c9} (hi : i < l.length) : EOk (l.getD i d) := h _ (getD_memE hi)
theorem o4_t (a : Ty9d3b88) (h1 : a.1.1.length ≤ 140737488355328) (h2 : a.1.2.length ≤ 140737488355328) (h3 : LOk a.2.1) :
    Tot (fun r => r = 0 → a.1.1.length ≤ 13 ∧ a.1.2.length ≤ 13 ∧ a.2.1.length ≤ 60 ∧ (a.2.2 = -1 ∨ (0 ≤ a.2.2 ∧ a.2.2 < a.2.1.length))) (o4 a) := by
  unfold o4
  refine tB (P := fun v => v.2 = a ∧ (v.1 = false → a.1.1.length ≤ 13 ∧ a.1.2.length ≤ 13)) ?_ fun v hv => ?_
  · refine tB (o14_t _ h1) fun r hr => tC (fun _ => tS ⟨rfl, fun h => by cases h⟩) fun h => ?_
    have hr := hr (notF h)
    exact tB (o14_t _ h2) fun r2 hr2 => tS ⟨rfl, fun h => ⟨hr, hr2 (notF h)⟩⟩
  obtain ⟨e, hv⟩ := hv
  refine tC (fun _ => tS fun h => by cases h) fun h => ?_
  have hv0 := hv h
  rw [e]
  refine tC (fun _ => tS fun h => by cases h) fun h => ?_
  have hl := dF h
  have hl : a.2.1.length ≤ 60 := by omega
  refine tL (fun t : (Int × List Tya2e0c9) × Int × Int × Ty9d3b88 => t.1.2 = a.2.1 ∧ t.2.1 = a.2.1.length ∧ 0 ≤ t.2.2.1 ∧ t.2.2.1 ≤ a.2.1.length ∧ t.2.2.2 = a) (fun t => ((a.2.1.length : Int) - t.2.2.1).toNat) ?_ ⟨rfl, rfl, Int.le_refl _, by simp, rfl⟩ (by simp; omega)
  rintro ⟨⟨s, l⟩, n, i, p⟩ ⟨e1, e2, h5, h6, e3⟩
  dsimp only at e1 e2 h5 h6 e3 ⊢
  subst e3; subst e1; subst e2
  refine tC (fun h => ?_) fun h => ?_
  · have h := dT h
    refine tG (dt (by omega)) (tI ?_)
    have hx : EOk (List.getD p.2.1 i.toNat Df4c50a0) := h3.getD (by omega)
    generalize List.getD p.2.1 i.toNat Df4c50a0 = x at hx
    have hw : IntKind.wrap .i64 (i + 1) = i + 1 := wr64 (by omega)
    have hw1 : IntKind.wrap .i64 (i - 1) = i - 1 := wr64 (by omega)
    refine tC (fun _ => ?_) fun _ => ?_
    · refine tC (fun _ => tDn (tS fun h => by cases h)) fun _ => ?_
      refine tB (P := fun v => v.1.1 = s ∧ v.1.2.1 = p.2.1 ∧ v.1.2.2 = ((p.2.1.length : Nat) : Int) ∧ v.2.1 = i ∧ v.2.2.2 = p) ?_ fun v hv => ?_
      · refine tC (fun _ => tS ⟨rfl, rfl, rfl, rfl, rfl⟩) fun h => ?_
        have h := eF h
        refine tC (fun _ => tS ⟨rfl, rfl, rfl, rfl, rfl⟩) fun _ => ?_
        rw [hw1]
        exact tG (dt (by omega)) (tS ⟨rfl, rfl, rfl, rfl, rfl⟩)
      · obtain ⟨e1, e2, e3, e4, e5⟩ := hv
        refine tC (fun _ => tDn (tS fun h => by cases h)) fun _ => tGo ?_
        rw [e1, e2, e3, e4, e5, hw]
        dsimp only
        exact ⟨⟨rfl, rfl, by omega, by omega, rfl⟩, by omega⟩
    · refine tBT (o15_t _ hx.1 hx.2.1 hx.2.2) fun v8 => ?_
      refine tC (fun h => tDn (tS fun h2 => absurd h2 (nT h))) fun _ => ?_
      refine tJ (P := fun v => v.1.2.1 = p.2.1 ∧ v.1.2.2 = ((p.2.1.length : Nat) : Int) ∧ v.2.1 = i ∧ v.2.2.1 = p) ?_ fun v hv => ?_
      · refine tB (P := fun v => v.1.1.2 = i ∧ v.1.2.1 = p.2.1 ∧ v.1.2.2 = ((p.2.1.length : Nat) : Int) ∧ v.2.1.1 = i ∧ v.2.2.1 = p ∧ (v.2.1.2 = false → 0 < i)) ?_ fun v hv => ?_
        · refine tC (fun _ => tS ⟨rfl, rfl, rfl, rfl, rfl, fun h => by cases h⟩) fun h => ?_
          have h := eF h
          rw [hw1]
          exact tG (dt (by omega)) (tS ⟨rfl, rfl, rfl, rfl, rfl, fun _ => by omega⟩)
        · obtain ⟨e1, e2, e3, e4, e5, h7⟩ := hv
          refine tC (fun _ => tBT (tT (o16_t _)) fun _ => tC (fun _ => tDn (tDn (tS fun h => by cases h))) fun _ => tGo ⟨e2, e3, e4, e5⟩) fun h => ?_
          have h7 := h7 h
          rw [e1, e5, hw1]
          refine tG (dt (by omega)) (tI (tBT (o17_t _ _) fun _ => tC (fun _ => tDn (tDn (tS fun h => by cases h))) fun _ => ?_))
          refine tB (P := fun v => v.1.2.1 = p.2.1 ∧ v.1.2.2 = ((p.2.1.length : Nat) : Int) ∧ v.2.1.1 = i ∧ v.2.2.1 = p) ?_ fun v hv => tC (fun _ => tDn (tDn (tS fun h => by cases h))) fun _ => tGo hv
          exact tC (fun _ => tBT (o18_t _ _) fun _ => tS ⟨e2, e3, e4, e5⟩) fun _ => tC (fun _ => tBT (o18_t _ _) fun _ => tS ⟨e2, e3, e4, e5⟩) fun _ => tS ⟨e2, e3, e4, e5⟩
      · obtain ⟨e1, e2, e3, e4⟩ := hv
        refine tC (fun _ => tDn (tS fun h => by cases h)) fun _ => tGo ?_
        rw [e1, e2, e3, e4, hw]
        dsimp only
        exact ⟨⟨rfl, rfl, by omega, by omega, rfl⟩, by omega⟩
  · refine tDn ?_
    refine tB (P := fun v => v = false → (p.2.2 = -1 ∨ (0 ≤ p.2.2 ∧ p.2.2 < p.2.1.length))) ?_ fun v hv => tC (fun _ => tS fun h => by cases h) fun h => tS fun _ => ⟨hv0.1, hv0.2, hl, hv h⟩
    refine tC (fun _ => ?_) fun h => tS fun _ => .inl (nF h)
    refine tC (fun _ => tS fun h => by cases h) fun h1 => ?_
    refine tC (fun _ => tS fun h => by cases h) fun h2 => ?_
    have h1 := dF h1
    have h2 := dF h2
    exact tG (dt (by omega)) (tS fun _ => .inr (by omega))
theorem o35_eq {l : List Tya2e0c9} (h : l.length ≤ 1000000) : o35 l = some l := by
  unfold o35
  rw [nlO_eq fun e => ?_]
  · rw [gdT (dt (by simp; omega))]; rfl
  · have : l = [] := by simpa using e
    subst this
    rfl
theorem o19_eq {a : Ty9d3b88} (h : a.2.1.length ≤ 1000000) : o19 a = some ((a.1.1, a.1.2, a.2.2), a.2.1) := by
  unfold o19
  rw [bdS (o35_eq h)]
theorem o36_eq (s : List UInt8) (c : Int) : o36 s c = some (ixB (u8 c) s 0) := rfl
structure EdOk (e : Ty90edd6) : Prop where
  ref : e.1.1.2.2.length ≤ 140737488355328
  name : e.1.2.1.length ≤ 140737488355328
  rwy : e.1.2.2.1.length ≤ 140737488355328
  tr : e.1.2.2.2.length ≤ 140737488355328
theorem o37_t (a : Ty90edd6) (c : Int) : Tot (fun r => r = true → (c = 97 → a.1.1.2.1 = 0) ∧ (c = 119 → a.1.2.2.1 = [])) (o37 a c) := by
  unfold o37
  refine tC (fun h => tS fun h2 => ?_) fun h0 => ?_
  · have h := eT h; subst h; exact ⟨fun _ => eT h2, fun h => absurd h (by decide)⟩
  refine tC (fun h => tS fun h2 => ?_) fun h1 => ?_
  · have h := eT h; subst h; exact ⟨fun h => absurd h (by decide), fun h => absurd h (by decide)⟩
  refine tC (fun h => tS fun h2 => ?_) fun _ => ?_
  · have h := eT h; subst h; exact ⟨fun h => absurd h (by decide), fun h => absurd h (by decide)⟩
  refine tC (fun h => tS fun h9 => ?_) fun h3 => ?_
  · have h := eT h; subst h; exact ⟨fun h => absurd h (by decide), fun _ => sT h9⟩
  have h0 := eF h0
  have h3 := eF h3
  refine tW (R := fun _ => True) ?_ fun _ _ _ => ⟨fun h => absurd h h0, fun h => absurd h h3⟩
  repeat' (first | exact tS trivial | refine tC (fun _ => ?_) (fun _ => ?_))
theorem o56_t (a b c : Int) : Tot (fun r => r = 0 → b ≤ a ∧ a ≤ c) (o56 a b c) := by
  unfold o56
  refine tB (P := fun r => r = false → b ≤ a ∧ a ≤ c) ?_ fun r hr => tC (fun _ => tS fun h => by cases h) fun h => tS fun _ => hr h
  exact tC (fun _ => tS fun h => by cases h) fun h => tS fun h2 => by have h := dF h; have h2 := dF h2; omega
theorem o58_t (b : Bool) : Tot (fun r => r = 0 → b = true) (o58 b) := by
  unfold o58
  exact tC (fun _ => tS fun h => by cases h) fun h => tS fun _ => notF h
theorem o59_t (s : List UInt8) (hs : s.length ≤ 140737488355328) : Tot (fun _ => True) (o59 s) := by
  unfold o59
  refine tB (o50_t s 47 hs) fun v hv => ?_
  refine tBT ?_ fun _ => tS trivial
  refine tBT (tT (o51_t v.1 6 (by omega))) fun _ => ?_
  exact tC (fun _ => tC (fun _ => tS trivial) fun _ => tBT (tT (o51_t v.2.1 6 (by omega))) fun _ => tS trivial) fun _ => tS trivial
theorem o38_t (a : Ty90edd6) (ha : EdOk a) (c : Int) : Tot (fun r => r = 0 → (c = 97 → 0 ≤ a.1.1.2.1 ∧ a.1.1.2.1 ≤ 60) ∧ (c = 119 → a.1.2.2.1.length ≤ 6)) (o38 a c) := by
  unfold o38
  refine tC (fun h => ?_) fun h0 => ?_
  · have h := eT h; subst h
    exact tB (o56_t _ _ _) fun r hr => tS fun h => ⟨fun _ => hr h, fun h => absurd h (by decide)⟩
  have h0 := eF h0
  refine tC (fun h => ?_) fun _ => ?_
  · have h := eT h; subst h
    exact tBT (tT (o57_t _ ha.ref)) fun _ => tBT (tT (o58_t _)) fun _ => tS fun _ => ⟨fun h => absurd h (by decide), fun h => absurd h (by decide)⟩
  refine tC (fun h => ?_) fun _ => ?_
  · have h := eT h; subst h
    refine tW (R := fun _ => True) ?_ fun _ _ _ => ⟨fun h => absurd h (by decide), fun h => absurd h (by decide)⟩
    exact tC (fun _ => tBT (o59_t _ ha.name) fun _ => tBT (tT (o58_t _)) fun _ => tS trivial) fun _ => tBT (tT (o51_t _ _ ha.name)) fun _ => tBT (tT (o58_t _)) fun _ => tS trivial
  refine tC (fun h => ?_) fun h3 => ?_
  · have h := eT h; subst h
    refine tB (P := fun r => r = 0 → a.1.2.2.1.length ≤ 6) ?_ fun r hr => tS fun h => ⟨fun h => absurd h (by decide), fun _ => hr h⟩
    refine tC (fun h => tBT (tT (o58_t _)) fun _ => tS fun _ => by rw [sT h]; decide) fun _ => ?_
    exact tB (o51_t _ _ ha.rwy) fun v hv => tB (o58_t _) fun r hr => tS fun h => by have := hv (hr h); omega
  have h3 := eF h3
  refine tW (R := fun _ => True) ?_ fun _ _ _ => ⟨fun h => absurd h h0, fun h => absurd h h3⟩
  repeat' (first | exact tS trivial | exact tT (o58_t _) | exact tT (o56_t _ _ _) | exact tT (o51_t _ _ ha.tr) | refine tC (fun _ => ?_) (fun _ => ?_) | refine tBT ?_ (fun _ => ?_))
theorem o20_t (a : Ty90edd6) (ha : EdOk a) : Tot (fun r => r = 0 → 1 ≤ a.1.1.1 ∧ a.1.1.1 ≤ 12 ∧ 0 ≤ a.1.1.2.1 ∧ a.1.1.2.1 ≤ 60 ∧ a.1.2.2.1.length ≤ 6) (o20 a) := by
  unfold o20
  refine tB (P := fun v => v.2 = a ∧ (v.1 = false → 1 ≤ a.1.1.1 ∧ a.1.1.1 ≤ 12)) ?_ fun v hv => ?_
  · exact tC (fun _ => tS ⟨rfl, fun h => by cases h⟩) fun h => tS ⟨rfl, fun h2 => by have h := dF h; have h2 := dF h2; omega⟩
  obtain ⟨e, hv⟩ := hv
  refine tC (fun _ => tS fun h => by cases h) fun h => ?_
  have hv := hv h
  rw [e]
  refine tG (dt (by omega)) (tG rfl ?_)
  generalize hF : (List.getD gl0 a.1.1.1.toNat (([] : List UInt8), ([] : List UInt8))).2 = F
  refine tL (fun t : (List UInt8 × List UInt8) × Int × Int × Ty90edd6 => t.1 = (F, ([(u8 (97 : Int)), (u8 (114 : Int)), (u8 (110 : Int)), (u8 (119 : Int)), (u8 (116 : Int)), (u8 (104 : Int)), (u8 (115 : Int)), (u8 (99 : Int)), (u8 (100 : Int)), (u8 (117 : Int))] : List UInt8)) ∧ t.2.1 = 10 ∧ 0 ≤ t.2.2.1 ∧ t.2.2.1 ≤ 10 ∧ t.2.2.2 = a ∧ (1 ≤ t.2.2.1 → 0 ≤ a.1.1.2.1 ∧ a.1.1.2.1 ≤ 60) ∧ (4 ≤ t.2.2.1 → a.1.2.2.1.length ≤ 6))
    (fun t => (10 - t.2.2.1).toNat) ?_ ⟨rfl, rfl, Int.le_refl _, (by decide : (0 : Int) ≤ 10), rfl, fun h => absurd h (by dsimp only; omega), fun h => absurd h (by dsimp only; omega)⟩ (by dsimp only; omega)
  rintro ⟨⟨f, ls⟩, n, i, e⟩ ⟨e1, e2, h5, h6, e3, h7, h8⟩
  dsimp only at e2 h5 h6 e3 h7 h8 ⊢
  injection e1 with e1 e4
  subst e3; subst e1; subst e2
  refine tC (fun h => ?_) fun h => ?_
  · have h := dT h
    have hl : ls.length = 10 := by rw [e4]; rfl
    refine tG (dt (by omega)) ?_
    have c0 : i = 0 → ((UInt8.toNat (List.getD ls i.toNat (0 : UInt8)) : Nat) : Int) = 97 := fun h => by subst h; subst e4; rfl
    have c3 : i = 3 → ((UInt8.toNat (List.getD ls i.toNat (0 : UInt8)) : Nat) : Int) = 119 := fun h => by subst h; subst e4; rfl
    generalize ((UInt8.toNat (List.getD ls i.toNat (0 : UInt8)) : Nat) : Int) = c at c0 c3
    have hw : IntKind.wrap .i64 (i + 1) = i + 1 := wr64 (by omega)
    refine tB (P := fun _ => True) ⟨_, o36_eq _ _, trivial⟩ fun v _ => ?_
    refine tC (fun _ => ?_) fun _ => ?_
    · refine tB (o37_t _ c) fun r hr => tC (fun _ => tDn (tS fun h => by cases h)) fun h9 => tGo ?_
      have hr := hr (notF h9)
      rw [hw]
      dsimp only
      refine ⟨⟨by rw [e4], rfl, by omega, by omega, rfl, fun _ => ?_, fun _ => ?_⟩, by omega⟩
      · by_cases h0 : i = 0
        · have := hr.1 (c0 h0); omega
        · exact h7 (by omega)
      · by_cases h0 : i = 3
        · rw [hr.2 (c3 h0)]; decide
        · exact h8 (by omega)
    · refine tB (o38_t _ ha c) fun r hr => tC (fun h => tDn (tS fun h2 => absurd h2 (nT h))) fun h9 => tGo ?_
      have hr := hr (nF h9)
      rw [hw]
      dsimp only
      refine ⟨⟨by rw [e4], rfl, by omega, by omega, rfl, fun _ => ?_, fun _ => ?_⟩, by omega⟩
      · by_cases h0 : i = 0
        · exact hr.1 (c0 h0)
        · exact h7 (by omega)
      · by_cases h0 : i = 3
        · exact hr.2 (c3 h0)
        · exact h8 (by omega)
  · have h := dF h
    exact tDn (tS fun _ => ⟨hv.1, hv.2, (h7 (by omega)).1, (h7 (by omega)).2, h8 (by omega)⟩)
theorem o64_t (a : Ty7661d1) : Tot (fun _ => True) (o64 a) := by
  unfold o64; repeat' (first | exact tS trivial | exact o34_t _ | refine tC (fun _ => ?_) (fun _ => ?_) | refine tBT ?_ (fun _ => ?_))
theorem o60_t (l : List Tya2e0c9) (a : Int) (s : List UInt8) (hl : l.length ≤ 1000000) (ha : a ≤ 1000000) : Tot (fun r : Int => r = -1 ∨ (0 ≤ r ∧ r < l.length)) (o60 l a s) := by
  unfold o60
  refine tL (fun t : List Tya2e0c9 × List UInt8 × Int => t.1 = l ∧ 0 ≤ t.2.2 ∧ t.2.2 ≤ 1000000) (fun t => (1000000 - t.2.2).toNat) ?_ ⟨rfl, by show 0 ≤ maxI a 0; unfold maxI; split <;> omega, by show maxI a 0 ≤ 1000000; unfold maxI; split <;> omega⟩ (by dsimp only; unfold maxI; split <;> omega)
  rintro ⟨t1, t2, i⟩ ⟨e1, h5, h6⟩
  dsimp only at e1 h5 h6 ⊢
  subst e1
  refine tC (fun h => ?_) fun h => tDn (tS (.inl rfl))
  have h := dT h
  refine tB (P := fun v => v.1.1 = t1 ∧ v.2.1 = i) ?_ fun v hv => ?_
  · refine tG (dt (by omega)) (tI (tBT (o64_t _) fun _ => ?_))
    exact tC (fun _ => tG (dt (by omega)) (tS ⟨rfl, rfl⟩)) fun _ => tS ⟨rfl, rfl⟩
  · obtain ⟨e1, e2⟩ := hv
    rw [e1, e2]
    refine tC (fun _ => tDn (tS (.inr ⟨h5, h⟩))) fun _ => tGo ?_
    rw [wr64 (by omega)]
    dsimp only
    exact ⟨⟨rfl, by omega, by omega⟩, by omega⟩
theorem o61_eq {l : List Tya2e0c9} {a : Ty58ac1c} (h : l.length ≤ 1000000) : o61 l a = some (a, l) := by
  unfold o61; rw [gdT (dt (by omega))]
theorem o61v1_eq {l m : List Tya2e0c9} {a : Ty58ac1c} (h : l.length ≤ 1000000) (h2 : m.length ≤ 1000000) : o61v1 l a m = some (a, m ++ l) := by
  unfold o61v1; rw [gdT (dt (by omega))]
theorem o112_eq (s : List UInt8) : o112 s = some s := by unfold o112; exact loop_one (dnS _)
theorem o100_eq (s : List UInt8) : o100 s = some ([], []) := by unfold o100; rw [bdS (o112_eq s)]
theorem o85_eq (a : Tyc0a991) (s : List UInt8) : o85 a s = some ([], []) := by unfold o85; rw [bdS (o100_eq s)]
theorem o81_eq (a : Tyc0a991) (s : List UInt8) : o81 a s = some () := by unfold o81; rw [bdS (o85_eq a s)]
def GOk (x : Tyab9aec) : Prop := x.2.1.length ≤ 140737488355328 ∧ x.2.2.1.length ≤ 140737488355328
theorem o67_t (a : Tyc0a991) (l : List Tyab9aec) (s : Int) (v : List UInt8) (hl : l.length ≤ 1000) (hx : ∀ x ∈ l, GOk x) (hv : v.length ≤ 140737488355328) : Tot (fun r => r.1 = 0 → r.2.length = l.length ∧ LOk r.2) (o67 a l s v) := by
  unfold o67
  refine tBT (o29_t _) fun _ => tC (fun _ => tS fun h => by cases h) fun _ => ?_
  refine tBT (tT (o30_t _ hv)) fun _ => tC (fun _ => tS fun h => by cases h) fun _ => ?_
  refine tL (fun t : Ty5d784f => t.1 = (s, v, l) ∧ t.2.1.1 = l.length ∧ 0 ≤ t.2.1.2 ∧ t.2.1.2 ≤ l.length ∧ (t.2.2.2.length : Int) = t.2.1.2 ∧ LOk t.2.2.2) (fun t => ((l.length : Int) - t.2.1.2).toNat) ?_ ⟨rfl, rfl, Int.le_refl _, by simp, rfl, fun x hx => by cases hx⟩ (by simp; omega)
  rintro ⟨t1, ⟨n, i⟩, t3, out⟩ ⟨e1, e2, h5, h6, h7, h8⟩
  dsimp only at e1 e2 h5 h6 h7 h8 ⊢
  subst e1; subst e2
  refine tC (fun h => ?_) fun h => tDn (tS fun _ => ⟨by have := dF h; dsimp only; omega, h8⟩)
  have h := dT h
  refine tG (dt (by dsimp only; omega)) (tI ?_)
  have hg : GOk (List.getD l i.toNat Df6c39f5) := hx _ (getD_memE (by omega))
  generalize List.getD l i.toNat Df6c39f5 = x at hg
  refine tBT (tT (o28_t _ hg.1 hg.2)) fun _ => tC (fun h => tDn (tS fun h2 => absurd h2 (nT h))) fun _ => ?_
  refine tC (fun _ => tBT ⟨_, o81_eq _ _, trivial⟩ fun _ => tDn (tS fun h => by cases h)) fun _ => ?_
  refine tC (fun _ => tBT ⟨_, o81_eq _ _, trivial⟩ fun _ => tDn (tS fun h => by cases h)) fun _ => ?_
  refine tG (dt (by simp; omega)) (tGo ?_)
  rw [wr64 (by omega)]
  dsimp only
  refine ⟨⟨rfl, rfl, by omega, by omega, by simp; omega, ?_⟩, by omega⟩
  intro y hy
  rcases List.mem_append.1 hy with h | h
  · exact h8 y h
  · have := List.mem_singleton.1 h
    subst this
    exact ⟨hg.1, hg.2, hv⟩
theorem o63_t (t : Int) (r : List UInt8) (s : Int) (v : List UInt8) (a : Ty58ac1c) (hr : r.length ≤ 140737488355328) (hv : v.length ≤ 140737488355328) :
    Tot (fun x => x.2.2.2.2.2 = 0 → x.1.1.2.1.length ≤ 140737488355328 ∧ x.1.1.2.2.1.length ≤ 140737488355328 ∧ x.2.2.2.2.1.length ≤ 140737488355328) (o63 t r s v a) := by
  unfold o63
  refine tI (tB (o67_t _ _ _ _ (by simp) ?_ hv) fun w hw => ?_)
  · intro x hx
    have := List.mem_singleton.1 hx
    subst this
    exact ⟨hr, by simp⟩
  refine tC (fun h => tS fun h2 => absurd h2 (nT h)) fun h => ?_
  obtain ⟨h1, h2⟩ := hw (nF h)
  have h1 : w.2.length = 1 := h1
  refine tG (dt (by omega)) (tI (tS fun _ => ?_))
  exact h2.getD (by rw [h1]; decide)
structure AOk (a : Ty58ac1c) : Prop where
  ents : LOk a.1.2.2.1
  len : a.1.2.2.1.length ≤ 60
  act : a.1.2.2.2.1 = -1 ∨ (0 ≤ a.1.2.2.2.1 ∧ a.1.2.2.2.1 < a.1.2.2.1.length)
  at0 : 0 ≤ a.2.1.1.1
  at1 : a.2.1.1.1 ≤ 60
  frm : a.1.2.1.2.1.length ≤ 13
  dest : a.1.2.1.2.2.length ≤ 13
  ref : a.2.1.1.2.length ≤ 140737488355328
  name : a.2.1.2.1.length ≤ 140737488355328
  rwy : a.2.1.2.2.1.length ≤ 6
  tr : a.2.1.2.2.2.length ≤ 140737488355328
def RP (r : Int × Ty58ac1c × List Tya2e0c9) : Prop := r.1 = 0 → r.2.1.1.2.1.2.1.length ≤ 140737488355328 ∧ r.2.1.1.2.1.2.2.length ≤ 140737488355328 ∧ LOk r.2.2 ∧ r.2.2.length ≤ 1000
theorem LOk.nil : LOk [] := fun x h => by cases h
theorem LOk.app {l m : List Tya2e0c9} (h : LOk l) (k : LOk m) : LOk (l ++ m) := fun x hx => (List.mem_append.1 hx).elim (h x) (k x)
theorem LOk.one {x : Tya2e0c9} (h : EOk x) : LOk [x] := fun y hy => by rw [List.mem_singleton.1 hy]; exact h
theorem LOk.two {x y : Tya2e0c9} (h : EOk x) (k : EOk y) : LOk [x, y] := fun z hz => by
  rcases List.mem_cons.1 hz with e | e
  · rw [e]; exact h
  · rw [List.mem_singleton.1 e]; exact k
theorem LOk.take {l : List Tya2e0c9} (h : LOk l) (n : Nat) : LOk (l.take n) := fun x hx => h x (List.mem_of_mem_take hx)
theorem LOk.drop {l : List Tya2e0c9} (h : LOk l) (n : Nat) : LOk (l.drop n) := fun x hx => h x (List.mem_of_mem_drop hx)
theorem LOk.set {l : List Tya2e0c9} (h : LOk l) (n : Nat) {x : Tya2e0c9} (hx : EOk x) : LOk (l.set n x) := fun y hy => by
  rcases List.mem_or_eq_of_mem_set hy with e | e
  · exact h y e
  · rw [e]; exact hx
theorem AOk.res {a : Ty58ac1c} (h : AOk a) {l : List Tya2e0c9} (hl : LOk l) (hn : l.length ≤ 1000) : RP (0, a, l) := fun _ => ⟨by have := h.frm; dsimp only; omega, by have := h.dest; dsimp only; omega, hl, hn⟩
theorem bdU {α β : Type} {x : Option α} {t : α} {k : α → Option β} {Q : β → Prop} (h : x = some t) (k1 : Tot Q (k t)) : Tot Q (bd x k) := by subst h; exact k1
theorem gv2_ok : EOk gv2 := ⟨by decide, by decide, by decide⟩
theorem o39_t (a : Ty58ac1c) (h : AOk a) (hat : a.2.1.1.1 ≤ a.1.2.2.1.length) : Tot RP (o39 a) := by
  have h0 := h.at0
  have h1 := h.len
  unfold o39
  refine tC (fun _ => tS fun h => by cases h) fun _ => ?_
  refine tB (o60_t _ _ _ (by omega) (by have := h.at1; omega)) fun v hv => ?_
  refine tC (fun h2 => ?_) fun _ => ?_
  · have h2 := dT h2
    have hv : 0 ≤ v ∧ v < (a.1.2.2.1.length : Int) := by omega
    refine tG (dt (by omega)) (bdU (o61_eq (by rw [List.length_take]; omega)) ?_)
    refine tG (dt (by omega)) (tI ?_)
    have hx : EOk (List.getD a.1.2.2.1 v.toNat Df4c50a0) := h.ents.getD (by omega)
    generalize List.getD a.1.2.2.1 v.toNat Df4c50a0 = x at hx
    unfold o62
    refine tI (bdU (o61v1_eq (by simp) (by rw [List.length_take]; omega)) ?_)
    rw [show IntKind.wrap .i64 (v + 1) = v + 1 from wr64 (by omega)]
    refine tG (dt (by omega)) (bdU (o61v1_eq (by rw [List.length_drop]; omega) (by rw [List.length_append, List.length_take]; simp; omega)) (tS (h.res ?_ ?_)))
    · refine ((h.ents.take _).app (.one ?_)).app (h.ents.drop _)
      exact ⟨hx.1, Nat.zero_le _, hx.2.2⟩
    · rw [List.length_append, List.length_append, List.length_take, List.length_drop]; simp; omega
  · refine tL (fun t : Ty85780d => t.1.1 = a.2.1.1.1 ∧ t.1.2.1 = a.1.2.2.1 ∧ t.2.1.1 = a.1.2.2.1 ∧ t.2.1.2 = ((a.1.2.2.1.length : Nat) : Int) ∧ 0 ≤ t.2.2.1 ∧ t.2.2.1 ≤ a.1.2.2.1.length ∧ t.2.2.2 = a) (fun t => ((a.1.2.2.1.length : Int) - t.2.2.1).toNat) ?_ ⟨rfl, rfl, rfl, rfl, Int.le_refl _, by simp, rfl⟩ (by simp; omega)
    rintro ⟨⟨at_, all, sec⟩, ⟨l, n⟩, i, p⟩ ⟨e1, e2, e3, e4, h5, h6, e5⟩
    dsimp only at e1 e2 e3 e4 h5 h6 e5 ⊢
    subst e5; subst e1; subst e2; subst e3; subst e4
    refine tC (fun hc => ?_) fun _ => tDn ?_
    · have hc := dT hc
      refine tG (dt (by omega)) (tI ?_)
      rw [show IntKind.wrap .i64 (i + 1) = i + 1 from wr64 (by omega)]
      exact tC (fun _ => tGo ⟨⟨rfl, rfl, rfl, rfl, by dsimp only; omega, by dsimp only; omega, rfl⟩, by dsimp only; omega⟩) fun _ => tGo ⟨⟨rfl, rfl, rfl, rfl, by dsimp only; omega, by dsimp only; omega, rfl⟩, by dsimp only; omega⟩
    · refine tB (P := fun v => v.1.1 = p.2.1.1.1 ∧ v.1.2 = p.1.2.2.1 ∧ v.2.2 = p) ?_ fun w hw => ?_
      · refine tG (dt (by omega)) ?_
        have hd : (List.drop p.2.1.1.1.toNat p.1.2.2.1).length ≤ 60 := by rw [List.length_drop]; omega
        generalize List.drop p.2.1.1.1.toNat p.1.2.2.1 = D at hd
        refine tL (fun t : Ty85780d => t.1.1 = p.2.1.1.1 ∧ t.1.2.1 = p.1.2.2.1 ∧ t.2.1.1 = D ∧ t.2.1.2 = ((D.length : Nat) : Int) ∧ 0 ≤ t.2.2.1 ∧ t.2.2.1 ≤ D.length ∧ t.2.2.2 = p) (fun t => ((D.length : Int) - t.2.2.1).toNat) ?_ ⟨rfl, rfl, rfl, rfl, Int.le_refl _, by simp, rfl⟩ (by simp; omega)
        rintro ⟨⟨at_, all, sec2⟩, ⟨l, n⟩, i, q⟩ ⟨e1, e2, e3, e4, h5, h6, e5⟩
        dsimp only at e1 e2 e3 e4 h5 h6 e5 ⊢
        subst e5; subst e1; subst e2; subst e3; subst e4
        refine tC (fun hc => ?_) fun _ => tDn (tS ⟨rfl, rfl, rfl⟩)
        have hc := dT hc
        refine tG (dt (by omega)) (tI ?_)
        rw [show IntKind.wrap .i64 (i + 1) = i + 1 from wr64 (by omega)]
        exact tC (fun _ => tDn (tS ⟨rfl, rfl, rfl⟩)) fun _ => tGo ⟨⟨rfl, rfl, rfl, rfl, by dsimp only; omega, by dsimp only; omega, rfl⟩, by dsimp only; omega⟩
      · obtain ⟨e1, e2, e3⟩ := hw
        rw [e1, e2, e3]
        refine tB (o63_t _ _ _ _ _ h.ref (by decide)) fun x hx => ?_
        refine tC (fun h2 => tS fun h3 => absurd h3 (nT h2)) fun h2 => ?_
        have hx := hx (nF h2)
        refine tG (dt (by omega)) (bdU (o61_eq (by rw [List.length_take]; omega)) ?_)
        refine tI (bdU (o61v1_eq (by simp) (by rw [List.length_take]; omega)) ?_)
        refine tG (dt (by omega)) (bdU (o61v1_eq (by rw [List.length_drop]; omega) (by rw [List.length_append, List.length_take]; simp; omega)) (tS (h.res ?_ ?_)))
        · refine ((h.ents.take _).app (.two ?_ gv2_ok)).app (h.ents.drop _)
          exact ⟨hx.1, hx.2.1, hx.2.2⟩
        · rw [List.length_append, List.length_append, List.length_take, List.length_drop]; simp; omega
theorem o40_t (a : Ty58ac1c) (h : AOk a) (hat : a.2.1.1.1 < a.1.2.2.1.length) : Tot RP (o40 a) := by
  have h0 := h.at0
  have h1 := h.len
  unfold o40
  refine tC (fun _ => tS fun h => by cases h) fun _ => ?_
  refine tG (dt (by omega)) (bdU (o61_eq (by rw [List.length_take]; omega)) ?_)
  rw [show IntKind.wrap .i64 (a.2.1.1.1 + 1) = a.2.1.1.1 + 1 from wr64 (by omega)]
  refine tG (dt (by omega)) ?_
  have hd : (List.drop (a.2.1.1.1 + 1).toNat a.1.2.2.1).length ≤ 60 := by rw [List.length_drop]; omega
  have hdo := h.ents.drop (a.2.1.1.1 + 1).toNat
  generalize List.drop (a.2.1.1.1 + 1).toNat a.1.2.2.1 = D at hd hdo
  have ht : (List.take a.2.1.1.1.toNat a.1.2.2.1).length ≤ 60 := by rw [List.length_take]; omega
  have hto := h.ents.take a.2.1.1.1.toNat
  generalize List.take a.2.1.1.1.toNat a.1.2.2.1 = U at ht hto
  refine tB (P := fun v => v.1.length ≤ 60 ∧ LOk v.1 ∧ v.2.1 = a ∧ LOk v.2.2 ∧ v.2.2.length ≤ 100) ?_ fun v hv => ?_
  · refine tG (dt (by omega)) (tC (fun _ => ?_) fun _ => ?_)
    · refine tI (bdU (o61v1_eq (by simp) (by (try dsimp only); omega)) (tS ⟨hd, hdo, rfl, hto.app (.one gv2_ok), by simp; omega⟩))
    · refine tB (P := fun v => v.1.1 = D ∧ v.2 = (a, U) ∧ (v.1.2 = true → 0 < D.length)) ?_ fun v hv => ?_
      · refine tC (fun hc => ?_) fun _ => tS ⟨rfl, rfl, fun h => by cases h⟩
        have hc := dT hc
        exact tG (dt (by omega)) (tS ⟨rfl, rfl, fun _ => by omega⟩)
      · obtain ⟨e1, e2, h3⟩ := hv
        rw [e1, e2]
        dsimp only
        refine tC (fun hc => ?_) fun _ => tS ⟨hd, hdo, rfl, hto, by dsimp only; omega⟩
        have h3 := h3 hc
        refine tG (dt (by omega)) (tI ?_)
        have hx : EOk (List.getD D (0 : Int).toNat Df4c50a0) := hdo.getD h3
        generalize List.getD D (0 : Int).toNat Df4c50a0 = x at hx
        unfold o62
        refine tI (bdU (o61v1_eq (by simp) (by omega)) (tG (dt (by omega)) (tS ⟨by rw [List.length_drop]; omega, hdo.drop _, rfl, hto.app (.one ?_), by simp; omega⟩)))
        exact ⟨hx.1, Nat.zero_le _, hx.2.2⟩
  · obtain ⟨h3, h4, e5, h6, h7⟩ := hv
    rw [e5]
    exact bdU (o61v1_eq (by omega) (by omega)) (tS (h.res (h6.app h4) (by rw [List.length_append]; omega)))
theorem o41_t (a : Ty58ac1c) (h : AOk a) (hat : a.2.1.1.1 < a.1.2.2.1.length) : Tot RP (o41 a) := by
  have h0 := h.at0
  have h1 := h.len
  unfold o41
  refine tC (fun _ => tS fun h => by cases h) fun _ => ?_
  refine tG (dt (by omega)) (tI ?_)
  have hx : EOk (List.getD a.1.2.2.1 a.2.1.1.1.toNat Df4c50a0) := h.ents.getD (by omega)
  generalize List.getD a.1.2.2.1 a.2.1.1.1.toNat Df4c50a0 = x at hx
  refine tBT (o64_t _) fun _ => tC (fun _ => tS fun h => by cases h) fun _ => ?_
  refine tB (P := fun v => v.1 = a ∧ LOk v.2 ∧ v.2.length ≤ 1000) ?_ fun v hv => ?_
  · refine tB (P := fun v => v.1 = (a.2.1.1.1, a.1.2.2.1) ∧ v.2.2.1 = a ∧ v.2.2.2.1.1.2.1 = x.2.1.2.1 ∧ v.2.2.2.2.2.2.2.2 = x.2.2.2.2.2) ?_ fun v hv => ?_
    · repeat' (first | exact tS ⟨rfl, rfl, rfl, rfl⟩ | refine tC (fun _ => ?_) (fun _ => ?_))
    · obtain ⟨e1, e2, e3, e4⟩ := hv
      rw [e1, e2]
      refine tC (fun _ => ?_) fun _ => ?_
      · refine tI (bdU (o61_eq (by simp)) (tG (dt (by (try dsimp only); omega)) (bdU (o61v1_eq (by rw [List.length_drop]; (try dsimp only); omega) (by simp)) (tS ⟨rfl, ?_, ?_⟩))))
        · refine LOk.app (.one ?_) (h.ents.drop _)
          exact ⟨by dsimp only; rw [e3]; exact hx.1, Nat.zero_le _, by dsimp only; rw [e4]; exact hx.2.2⟩
        · rw [List.length_append, List.length_drop]; simp; omega
      · unfold o62
        rw [show IntKind.wrap .i64 (a.2.1.1.1 + 1) = a.2.1.1.1 + 1 from wr64 (by omega)]
        refine tI (bdU (o61_eq (by simp)) (tG (dt (by (try dsimp only); omega)) (bdU (o61v1_eq (by rw [List.length_drop]; (try dsimp only); omega) (by simp)) (tS ⟨rfl, ?_, ?_⟩))))
        · refine LOk.app (.one ?_) (h.ents.drop _)
          exact ⟨by dsimp only; rw [e3]; exact hx.1, Nat.zero_le _, by dsimp only; rw [e4]; exact hx.2.2⟩
        · rw [List.length_append, List.length_drop]; simp; omega
  · obtain ⟨e1, h2, h3⟩ := hv
    rw [e1]
    refine tS fun _ => ⟨by have := h.frm; dsimp only; omega, by have := h.dest; dsimp only; omega, h2, h3⟩
theorem o42_t (a : Ty58ac1c) (h : AOk a) (hat : a.2.1.1.1 < a.1.2.2.1.length) : Tot RP (o42 a) := by
  have h0 := h.at0
  have h1 := h.len
  unfold o42
  refine tC (fun _ => tS fun h => by cases h) fun _ => ?_
  refine tG (dt (by omega)) (tC (fun _ => tS fun h => by cases h) fun _ => ?_)
  refine bdU (o61_eq (by (try dsimp only); omega)) (tG (dt (by (try dsimp only); omega)) ?_)
  have hx : EOk (List.getD a.1.2.2.1 a.2.1.1.1.toNat Df4c50a0) := h.ents.getD (by omega)
  dsimp only
  generalize List.getD a.1.2.2.1 a.2.1.1.1.toNat Df4c50a0 = x at hx
  refine tC (fun _ => tS (h.res (h.ents.set _ ⟨hx.1, hx.2.1, hx.2.2⟩) (by rw [List.length_set]; omega))) fun _ => ?_
  exact tC (fun _ => tS (h.res (h.ents.set _ ⟨hx.1, hx.2.1, hx.2.2⟩) (by rw [List.length_set]; omega))) fun _ => tS (h.res (h.ents.set _ ⟨hx.1, hx.2.1, hx.2.2⟩) (by rw [List.length_set]; omega))
theorem o43_t (a : Ty58ac1c) (h : AOk a) (hat : a.2.1.1.1 < a.1.2.2.1.length) : Tot RP (o43 a) := by
  have h0 := h.at0
  have h1 := h.len
  unfold o43
  refine tC (fun _ => tS fun h => by cases h) fun _ => ?_
  refine tG (dt (by omega)) (tI ?_)
  have hx : EOk (List.getD a.1.2.2.1 a.2.1.1.1.toNat Df4c50a0) := h.ents.getD (by omega)
  generalize List.getD a.1.2.2.1 a.2.1.1.1.toNat Df4c50a0 = x at hx
  refine tC (fun _ => tS fun h => by cases h) fun _ => ?_
  refine tB (P := fun v => v.1 = (a.2.1.1.1, a.1.2.2.1) ∧ v.2.2.1 = a ∧ v.2.2.2.1.1.2.1 = x.2.1.2.1) ?_ fun v hv => ?_
  · repeat' (first | exact tS ⟨rfl, rfl, rfl⟩ | refine tC (fun _ => ?_) (fun _ => ?_))
  · obtain ⟨e1, e2, e3⟩ := hv
    refine tC (fun _ => tS fun h => by cases h) fun _ => ?_
    rw [e1, e2]
    rw [show IntKind.wrap .i64 (a.2.1.1.1 + 1) = a.2.1.1.1 + 1 from wr64 (by omega)]
    refine tG (dt (by dsimp only; omega)) (bdU (o61_eq (by rw [List.length_take]; omega)) ?_)
    refine tI (bdU (o61v1_eq (by simp) (by rw [List.length_take]; omega)) ?_)
    refine tG (dt (by (try dsimp only); omega)) (bdU (o61v1_eq (by rw [List.length_drop]; (try dsimp only); omega) (by rw [List.length_append, List.length_take]; simp; omega)) (tS (h.res ?_ ?_)))
    · refine ((h.ents.take _).app (.one ?_)).app (h.ents.drop _)
      exact ⟨by dsimp only; rw [e3]; exact hx.1, Nat.zero_le _, Nat.zero_le _⟩
    · rw [List.length_append, List.length_append, List.length_take, List.length_drop]; simp; omega
theorem o65_eq (a : Tyc0a991) (s : List UInt8) : o65 a s = some [] := by unfold o65; exact loop_one (dnS _)
theorem o44_t (a : Ty58ac1c) (h : AOk a) (hat : a.2.1.1.1 < a.1.2.2.1.length) : Tot (fun r => r ≠ 0) (o44 a) := by
  have h0 := h.at0
  unfold o44
  refine tC (fun _ => tS (by decide)) fun _ => ?_
  refine tG (dt (by omega)) (tI ?_)
  refine tBT (o64_t _) fun _ => tC (fun _ => tS (by decide)) fun _ => ?_
  exact bdU (o65_eq _ _) (tS (by decide))
theorem o68_t (s : List UInt8) (a : Ty58ac1c) (hs : s.length ≤ 13) (h : a.2.1.2.2.1.length ≤ 6) : Tot (fun r => r.length ≤ 20) (o68 s a) := by
  unfold o68
  refine tC (fun _ => tS (by omega)) fun _ => ?_
  refine tB (o50_t s 47 (by omega)) fun v hv => ?_
  have e1 : ([(47 : UInt8)] : List UInt8).length = 1 := rfl
  refine tG (dt (by rw [e1]; omega)) (tG (dt (by rw [List.length_append, e1]; omega)) (tS (by rw [List.length_append, List.length_append, e1]; omega)))
theorem o110_eq (s : List UInt8) (k : Int) (t : List UInt8) : o110 s k t = some (s, k, t) := by unfold o110; exact loop_one (dnS _)
theorem o94_eq (s : List UInt8) (k : Int) (t : List UInt8) : o94 s k t = some ([], []) := by unfold o94; rw [bdS (o110_eq s k t)]
theorem o82_eq (a : Tyc0a991) (s : List UInt8) (k : Int) (t : List UInt8) : o82 a s k t = some ([], []) := by unfold o82; rw [bdS (o94_eq s k t)]
theorem o69_t (s : List UInt8) (k : Int) (a : Ty58ac1c) (hs : s.length ≤ 140737488355328) : Tot (fun _ => True) (o69 s k a) := by
  unfold o69
  exact tBT (tT (o50_t s 47 hs)) fun _ => bdU (o82_eq _ _ _ _) (tS trivial)
theorem o45_t (a : Ty58ac1c) (h : AOk a) : Tot (fun r => r.1 ≠ 0) (o45 a) := by
  unfold o45
  refine tC (fun _ => tS (fun h => by cases h)) fun _ => tC (fun _ => tS (fun h => by cases h)) fun _ => ?_
  refine tB (o68_t _ _ h.frm h.rwy) fun v hv => ?_
  exact tBT (o69_t _ _ _ (by omega)) fun _ => tS (fun h => by cases h)
theorem o46_t (k s : Int) (a : Ty58ac1c) (h : AOk a) : Tot (fun r => r.1 ≠ 0) (o46 k s a) := by
  unfold o46
  refine tC (fun _ => tS (fun h => by cases h)) fun _ => ?_
  refine tB (P := fun v => v.2.2.1 = a) ?_ fun v hv => ?_
  · refine tC (fun hc => ?_) fun _ => tS rfl
    have hc := nT hc
    have := h.act
    exact tG (dt (by omega)) (tS rfl)
  · rw [hv]
    refine tC (fun _ => tS (fun h => by cases h)) fun _ => ?_
    refine tB (P := fun w => w.2.2.1.1.2.1.2.2.length ≤ 20) ?_ fun w hw => ?_
    · refine tC (fun _ => tB (o68_t _ _ h.dest h.rwy) fun r hr => tS hr) fun _ => tS ?_
      rw [hv]
      have := h.dest
      omega
    · exact tBT (o69_t _ _ _ (by omega)) fun _ => tS (fun h => by cases h)
theorem o84_t (s : List UInt8) (hs : s.length ≤ 140737488355328) : Tot (fun v => v.2.2 = true → v.1.length ≤ 140737488355328 ∧ v.2.1.length ≤ 140737488355328 ∧ v.1.length + v.2.1.length ≤ 100) (o84 s) := by
  unfold o84
  refine tB (o50_t s 47 hs) fun v hv => ?_
  refine tB (P := fun w => w.2.2 = false → w.1.length ≤ 6 ∧ w.2.1.length ≤ 6) ?_ fun w hw => tC (fun _ => tS fun h => by cases h) fun h => tS fun _ => by have := hw h; dsimp only; omega
  refine tB (o51_t v.1 6 (by omega)) fun r hr => ?_
  refine tC (fun _ => tS fun h => by cases h) fun h1 => ?_
  have hr := hr (notF h1)
  refine tC (fun _ => ?_) fun h2 => tS fun _ => ?_
  · exact tB (o51_t v.2.1 6 (by omega)) fun r2 hr2 => tS fun h3 => by have := hr2 (notF h3); dsimp only; omega
  · dsimp only
    have := hv.2.2.2 h2
    rw [this] at hr
    have := hv.1
    have := hv.2.1
    refine ⟨by omega, ?_⟩
    omega
theorem o70_t (a : Tyc0a991) (s : List UInt8) (hs : s.length ≤ 140737488355328) : Tot (fun r => r.1 = []) (o70 a s) := by
  unfold o70
  refine tB (o84_t s hs) fun v hv => ?_
  refine tC (fun _ => tS rfl) fun h => ?_
  have hv := hv (notF h)
  have e1 : ([(47 : UInt8)] : List UInt8).length = 1 := rfl
  refine tC (fun _ => ?_) fun _ => ⟨_, loop_one (dnS _), rfl⟩
  refine tG (dt (by rw [e1]; omega)) (tG (dt (by rw [List.length_append, e1]; omega)) ?_)
  exact bdU (o85_eq _ _) (tS rfl)
theorem o47_t (a : Ty58ac1c) (h : AOk a) (hat : a.2.1.1.1 < a.1.2.2.1.length) : Tot RP (o47 a) := by
  have h0 := h.at0
  have h1 := h.len
  unfold o47
  refine tC (fun _ => tS fun h => by cases h) fun _ => ?_
  refine tG (dt (by omega)) (tI ?_)
  refine tBT (o64_t _) fun _ => tC (fun _ => tS fun h => by cases h) fun _ => ?_
  refine tB (o70_t _ _ h.name) fun v hv => ?_
  refine tC (fun h2 => tS fun h3 => absurd h3 (nT h2)) fun h2 => ?_
  refine tG (dt (by omega)) ?_
  refine tB (o63_t _ _ _ _ _ (by rw [hv]; decide) (by decide)) fun x hx => ?_
  refine tC (fun h2 => tS fun h3 => absurd h3 (nT h2)) fun h2 => ?_
  have hx := hx (nF h2)
  rw [show IntKind.wrap .i64 (a.2.1.1.1 + 1) = a.2.1.1.1 + 1 from wr64 (by omega)]
  refine tG (dt (by omega)) (bdU (o61_eq (by rw [List.length_take]; omega)) ?_)
  refine bdU (o61v1_eq (by simp) (by rw [List.length_take]; omega)) (tS fun _ => ⟨by have := h.frm; dsimp only; omega, h.name, ?_, ?_⟩)
  · refine (h.ents.take _).app (.one ?_)
    exact ⟨hx.1, hx.2.1, hx.2.2⟩
  · rw [List.length_append, List.length_take]; simp; omega
theorem o21_t (a : Ty58ac1c) (h : AOk a) (h1 : 1 ≤ a.1.2.2.2.2) (h2 : a.1.2.2.2.2 ≤ 12) : Tot RP (o21 a) := by
  unfold o21
  refine tJ (P := fun v => v = a ∧ (0 ≤ ixB 97 (List.getD gl0 a.1.2.2.2.2.toNat (([] : List UInt8), ([] : List UInt8))).2 0 → a.2.1.1.1 < a.1.2.2.1.length ∨ (a.2.1.1.1 = a.1.2.2.1.length ∧ a.1.2.2.2.2 = 1))) ?_ fun v hv => ?_
  · refine tG (dt (by omega)) (bdU (o36_eq _ _) ?_)
    rw [show u8 (97 : Int) = 97 from rfl]
    refine tC (fun h3 => ?_) fun h3 => tGo ⟨rfl, fun h4 => absurd h4 (dF h3)⟩
    refine tB (P := fun v => v.2 = a ∧ (v.1 = false → a.2.1.1.1 < a.1.2.2.1.length ∨ (a.2.1.1.1 = a.1.2.2.1.length ∧ a.1.2.2.2.2 = 1))) ?_ fun v hv => ?_
    · refine tC (fun _ => tS ⟨rfl, fun h => by cases h⟩) fun h4 => ?_
      have h4 := dF h4
      refine tC (fun h5 => tS ⟨rfl, fun h6 => .inr ⟨eT h5, nF h6⟩⟩) fun h5 => tS ⟨rfl, fun _ => .inl ?_⟩
      have h5 := eF h5
      omega
    · obtain ⟨e1, h4⟩ := hv
      refine tC (fun _ => tDn (tS fun h => by cases h)) fun h5 => ?_
      rw [e1]
      exact tGo ⟨rfl, fun _ => h4 h5⟩
  · obtain ⟨e, hv⟩ := hv
    rw [e]
    have key : ∀ k : Int, a.1.2.2.2.2 = k → 0 ≤ ixB 97 (List.getD gl0 k.toNat (([] : List UInt8), ([] : List UInt8))).2 0 → k ≠ 1 → a.2.1.1.1 < a.1.2.2.1.length := fun k ek h3 h4 => by
      rw [ek] at hv
      rcases hv h3 with h5 | ⟨_, h5⟩
      · exact h5
      · exact absurd h5 h4
    refine tC (fun h3 => ?_) fun n1 => tC (fun h3 => ?_) fun n2 => tC (fun h3 => ?_) fun n3 => ?_
    · have h3 := eT h3
      refine tB (o39_t a h ?_) fun r hr => tS hr
      rw [h3] at hv
      rcases hv (by decide) with h5 | ⟨h5, _⟩ <;> omega
    · exact tB (o40_t a h (key 2 (eT h3) (by decide) (by decide))) fun r hr => tS hr
    · exact tB (o41_t a h (key 3 (eT h3) (by decide) (by decide))) fun r hr => tS hr
    · refine tB (P := fun v => v.1 = a.1.2.2.2.2 ∧ v.2.2 = a ∧ (v.2.1 = true → a.1.2.2.2.2 = 4 ∨ a.1.2.2.2.2 = 5 ∨ a.1.2.2.2.2 = 6) ∧ (v.2.1 = false → a.1.2.2.2.2 ≠ 4 ∧ a.1.2.2.2.2 ≠ 5 ∧ a.1.2.2.2.2 ≠ 6)) ?_ fun v hv2 => ?_
      · refine tC (fun h3 => tS ⟨rfl, rfl, fun _ => .inl (eT h3), fun h => by cases h⟩) fun n4 => tC (fun h3 => tS ⟨rfl, rfl, fun _ => .inr (.inl (eT h3)), fun h => by cases h⟩) fun n5 => tS ⟨rfl, rfl, fun h => .inr (.inr (eT h)), fun h => ⟨eF n4, eF n5, eF h⟩⟩
      · obtain ⟨e1, e2, h3, h4⟩ := hv2
        rw [e1, e2]
        refine tC (fun h5 => ?_) fun h5 => ?_
        · refine tB (o42_t a h ?_) fun r hr => tS hr
          rcases h3 h5 with h6 | h6 | h6
          · exact key 4 h6 (by decide) (by decide)
          · exact key 5 h6 (by decide) (by decide)
          · exact key 6 h6 (by decide) (by decide)
        have h4 := h4 h5
        refine tC (fun h3 => tB (o43_t a h (key 7 (eT h3) (by decide) (by decide))) fun r hr => tS hr) fun n7 => ?_
        refine tC (fun h3 => tB (o44_t a h (key 8 (eT h3) (by decide) (by decide))) fun r hr => tS fun h => absurd h hr) fun n8 => ?_
        refine tC (fun h3 => tB (o45_t a h) fun r hr => tS fun h => absurd h hr) fun n9 => ?_
        refine tC (fun h3 => tB (o46_t _ _ a h) fun r hr => tS fun h => absurd h hr) fun n10 => ?_
        refine tC (fun h3 => tB (o46_t _ _ a h) fun r hr => tS fun h => absurd h hr) fun n11 => ?_
        have := eF n1
        have := eF n2
        have := eF n3
        have := eF n7
        have := eF n8
        have := eF n9
        have := eF n10
        have := eF n11
        exact tB (o47_t a h (key 12 (by omega) (by decide) (by decide))) fun r hr => tS hr
def XOk (t : Ty7661d1) : Prop := t.1.1.2.1.length ≤ 140737488355328 ∧ t.1.1.2.2.1.length ≤ 140737488355328 ∧ t.2.2.2.2.2.length ≤ 140737488355328
theorem o48_t (a : Ty7661d1) (h : XOk a) : Tot (fun r => r.1.1.2.1.length ≤ 140737488355328 ∧ r.1.1.2.2.1.length ≤ 140737488355328 ∧ r.2.2.2.2.1.length ≤ 140737488355328) (o48 a) := by
  unfold o48
  refine tBT (tT (o16_t _)) fun _ => tC (fun _ => tS ⟨h.1, h.2.1, h.2.2⟩) fun _ => ?_
  refine tB (P := fun v => v.2.1 = a) ?_ fun v hv => ?_
  · repeat' (first | exact tS rfl | refine tC (fun _ => ?_) (fun _ => ?_))
  · refine tC (fun _ => ?_) fun _ => tS ⟨Nat.zero_le _, Nat.zero_le _, Nat.zero_le _⟩
    rw [hv]
    exact tS ⟨h.1, Nat.zero_le _, h.2.2⟩
theorem o22_t (l : List Tya2e0c9) (hl : LOk l) (hn : l.length ≤ 1000) : Tot (fun r => LOk r ∧ r.length ≤ 2000) (o22 l) := by
  unfold o22
  refine tL (fun t : (Bool × List Tya2e0c9) × Int × Int × List Tya2e0c9 => t.1.2 = l ∧ t.2.1 = ((l.length : Nat) : Int) ∧ 0 ≤ t.2.2.1 ∧ t.2.2.1 ≤ l.length ∧ LOk t.2.2.2 ∧ (t.2.2.2.length : Int) ≤ 2 * t.2.2.1) (fun t => ((l.length : Int) - t.2.2.1).toNat) ?_ ⟨rfl, rfl, Int.le_refl _, by simp, LOk.nil, by simp⟩ (by simp; omega)
  rintro ⟨⟨pd, l1⟩, n, i, out⟩ ⟨e1, e2, h5, h6, h7, h8⟩
  dsimp only at e1 e2 h5 h6 h7 h8 ⊢
  subst e1; subst e2
  refine tC (fun hc => ?_) fun _ => tDn (tS ⟨h7, by omega⟩)
  have hc := dT hc
  refine tG (dt (by omega)) (tI ?_)
  have hx : EOk (List.getD l1 i.toNat Df4c50a0) := hl.getD (by omega)
  generalize List.getD l1 i.toNat Df4c50a0 = x at hx
  have hw : IntKind.wrap .i64 (i + 1) = i + 1 := wr64 (by omega)
  refine tC (fun _ => tGo ?_) fun _ => ?_
  · rw [hw]; exact ⟨⟨rfl, rfl, by dsimp only; omega, by dsimp only; omega, h7, by dsimp only; omega⟩, by dsimp only; omega⟩
  refine tJ (P := fun v => v.1.2.1 = l1 ∧ v.1.2.2 = ((l1.length : Nat) : Int) ∧ v.2.1 = i ∧ v.2.2.1 = out ∧ XOk v.2.2.2) ?_ fun v hv => ?_
  · refine tB (P := fun v => v.1.2.1 = l1 ∧ v.1.2.2 = ((l1.length : Nat) : Int) ∧ v.2.1.1 = i ∧ v.2.2.1 = out ∧ XOk v.2.2.2 ∧ (v.2.1.2 = true → 0 < out.length)) ?_ fun v hv => ?_
    · exact tC (fun h => tS ⟨rfl, rfl, rfl, rfl, ⟨hx.1, hx.2.1, hx.2.2⟩, fun _ => by have := dT h; omega⟩) fun _ => tS ⟨rfl, rfl, rfl, rfl, ⟨hx.1, hx.2.1, hx.2.2⟩, fun h => by cases h⟩
    · obtain ⟨e1, e2, e3, e4, h9, h10⟩ := hv
      refine tC (fun h => ?_) fun _ => tGo ⟨e1, e2, e3, e4, h9⟩
      have h10 := h10 h
      rw [e4, wr64 (by omega)]
      refine tG (dt (by omega)) (tI ?_)
      refine tB (P := fun w => w.1.1.2 = l1 ∧ w.1.2.1 = ((l1.length : Nat) : Int) ∧ w.1.2.2 = i ∧ w.2.1.2 = out ∧ XOk w.2.2.1) ?_ fun w hw2 => ?_
      · refine tBT (o18_t _ _) fun _ => ?_
        repeat' (first | exact tS ⟨e1, e2, e3, rfl, h9⟩ | refine tC (fun _ => ?_) (fun _ => ?_))
      · obtain ⟨e5, e6, e7, e8, h11⟩ := hw2
        refine tC (fun _ => tDn (tS ?_)) fun _ => tBT (o17_t _ _) fun _ => tC (fun _ => ?_) fun _ => tGo ⟨e5, e6, e7, e8, h11⟩
        · rw [e7, e8, hw]
          exact ⟨⟨e5, e6, by dsimp only; omega, by dsimp only; omega, h7, by dsimp only; omega⟩, by dsimp only; omega⟩
        · rw [e7, e8, hw]
          refine tG (dt (by simp; omega)) (tDn (tS ⟨⟨e5, e6, by dsimp only; omega, by dsimp only; omega, h7.app (.one ?_), by simp; omega⟩, by dsimp only; omega⟩))
          exact ⟨h11.1, h11.2.1, h11.2.2⟩
  · obtain ⟨e1, e2, e3, e4, h9⟩ := hv
    refine tB (o48_t _ h9) fun y hy => ?_
    refine tC (fun _ => ?_) fun _ => ?_
    · refine tB (P := fun w => w.1.2 = l1 ∧ w.2.1 = ((l1.length : Nat) : Int) ∧ w.2.2.1 = i ∧ w.2.2.2 = out) ?_ fun w hw2 => ?_
      · exact tC (fun _ => tS ⟨e1, e2, e3, e4⟩) fun _ => tS ⟨e1, e2, e3, e4⟩
      · obtain ⟨e5, e6, e7, e8⟩ := hw2
        refine tS ?_
        rw [e7, e8, hw]
        exact ⟨⟨e5, e6, by dsimp only; omega, by dsimp only; omega, h7, by dsimp only; omega⟩, by dsimp only; omega⟩
    · refine tB (P := fun w => w.1.1 = l1 ∧ w.1.2 = ((l1.length : Nat) : Int) ∧ w.2.1 = i ∧ LOk w.2.2.1 ∧ (w.2.2.1.length : Int) ≤ 2 * i + 1 ∧ XOk w.2.2.2) ?_ fun w hw2 => ?_
      · rw [e4]
        refine tC (fun _ => tG (dt (by simp; omega)) (tS ⟨e1, e2, e3, h7.app (.one ?_), by simp; omega, hy.1, hy.2.1, hy.2.2⟩)) fun _ => tS ⟨e1, e2, e3, h7, by dsimp only; omega, hy.1, hy.2.1, hy.2.2⟩
        exact ⟨by decide, by decide, by decide⟩
      · obtain ⟨e5, e6, e7, h10, h11, h12⟩ := hw2
        rw [e5, e6, e7, hw]
        refine tG (dt (by simp; omega)) (tS ⟨⟨rfl, rfl, by dsimp only; omega, by dsimp only; omega, h10.app (.one ?_), by simp; omega⟩, by dsimp only; omega⟩)
        exact ⟨h12.1, h12.2.1, h12.2.2⟩
structure PlOk (p : Ty9d3b88) : Prop where
  frm : p.1.1.length ≤ 140737488355328
  dest : p.1.2.length ≤ 140737488355328
  ents : LOk p.2.1
theorem o6_t (z : Tyc0a991) (p : Ty9d3b88) (e : Ty90edd6) (hp : PlOk p) (he : EdOk e) : Tot (fun r => r.1.2.2 = 0 → PlOk (r.1.1, r.2, r.1.2.1) ∧ r.2.length ≤ 60) (o6 z p e) := by
  unfold o6
  refine tB (o4_t p hp.frm hp.dest hp.ents) fun v hv => ?_
  refine tC (fun h => tS fun h2 => absurd h2 (nT h)) fun h => ?_
  obtain ⟨h1, h2, h3, h4⟩ := hv (nF h)
  refine tB (o20_t e he) fun w hw => ?_
  refine tC (fun h => tS fun h2 => absurd h2 (nT h)) fun h => ?_
  obtain ⟨k1, k2, k3, k4, k5⟩ := hw (nF h)
  refine tB (o21_t _ ⟨hp.ents, h3, h4, k3, k4, h1, h2, he.ref, he.name, k5, he.tr⟩ k1 k2) fun r hr => ?_
  refine tC (fun h => tS fun h2 => absurd h2 (nT h)) fun h => ?_
  obtain ⟨m1, m2, m3, m4⟩ := hr (nF h)
  refine tB (o22_t _ m3 m4) fun u hu => ?_
  refine tB (o4_t _ m1 m2 hu.1) fun x hx => ?_
  refine tC (fun h => tS fun h2 => absurd h2 (nT h)) fun h => ?_
  obtain ⟨n1, n2, n3, n4⟩ := hx (nF h)
  exact tS fun _ => ⟨⟨m1, m2, hu.1⟩, n3⟩
abbrev Pl := Tyf1ba29
abbrev Sta := Tyb7b0f3
def toP (p : Ty9d3b88) : Pl := (p.1.1, p.1.2, p.2.1, p.2.2)
def ofP (q : Pl) : Ty9d3b88 := ((q.1, q.2.1), q.2.2.1, q.2.2.2)
def hOf (p : Ty9d3b88) (s : Sta) : Ty84dfad := (p, (s.1.1, s.1.2.1), s.1.2.2.1, s.1.2.2.2, s.2)
def sOf (h : Ty84dfad) : Sta := ((h.2.1.1, h.2.1.2, h.2.2.1, h.2.2.2.1), h.2.2.2.2)
def planOf (p : Ty9d3b88) (s : Sta) : Ty9d3b88 := match s.2 with | true => ofP s.1 | false => p
theorem o23v1_eq {a : Ty9d3b88} {h : Ty84dfad} {u : List Sta} (hu : u.length ≤ 15) (ha : a.2.1.length ≤ 60) :
    o23v1 a h u = some (((h.1.1.1, h.1.1.2, h.1.2.1), (h.1.2.2, a.1.1), a.1.2, a.2.2), a.2.1, u ++ [sOf h]) := by
  unfold o23v1
  rw [gdT (dt (by simp; omega))]
  rw [bdS (cndF (df (by simp; omega)))]
  rw [bdS (o19_eq (by dsimp only; omega))]
  rfl
theorem o7v2_eq {z : Tyc0a991} {e : Ty90edd6} {p : Ty9d3b88} {s : Sta} {u : List Sta} {r : ((List UInt8 × List UInt8) × Int × Int) × List Tya2e0c9} (hu : u.length ≤ 15) (hr : o6 z (planOf p s) e = some r) (hl : r.1.2.2 = 0 → r.2.length ≤ 60) :
    o7v2 z e (hOf p s) u = some (cond (r.1.2.2 != 0) (r.1.2.2, hOf p s, u) (0, hOf p ((r.1.1.1, r.1.1.2, r.2, r.1.2.1), true), u ++ [s])) := by
  unfold o7v2
  have key : ∀ (P : Ty9d3b88), P = planOf p s → (bd (α := (((List UInt8 × List UInt8) × Int × Int) × List Tya2e0c9)) (o6 z P e) (fun v2 => (cnd (v2.1.2.2 != (0 : Int)) (some (v2.1.2.2, (hOf p s, u))) (bd (α := (Ty00afe6 × List Tya2e0c9 × List Tyb7b0f3)) (o23v1 (v2.1.1, v2.2, v2.1.2.1) (hOf p s) u) (fun v3 => (some ((0 : Int), (((v3.1.1.1, v3.1.1.2.1), v3.1.1.2.2, v3.1.2.1.1), (v3.1.2.1.2, v3.1.2.2.1), v3.2.1, v3.1.2.2.2, true), v3.2.2))))))) = some (cond (r.1.2.2 != 0) (r.1.2.2, hOf p s, u) (0, hOf p ((r.1.1.1, r.1.1.2, r.2, r.1.2.1), true), u ++ [s])) := fun P eP => by
    subst eP
    rw [bdS hr]
    cases hc : (r.1.2.2 != 0) with
    | true => rw [cndT rfl]; rfl
    | false =>
      rw [cndF rfl, bdS (o23v1_eq hu (hl (nF hc)))]
      rfl
  obtain ⟨s1, b⟩ := s
  cases b with
  | true => exact key _ rfl
  | false => exact key _ rfl
theorem concat_len {α : Type} (u : List α) (x : α) : (u ++ [x]).length = u.length + 1 := by simp
theorem getD_last {α : Type} (u : List α) (x d : α) : List.getD (u ++ [x]) u.length d = x := by simp [List.getD_eq_getElem?_getD]
theorem o24v1_eq {p : Ty9d3b88} {s t : Sta} {u r : List Sta} (hu : u.length ≤ 100) (hr : r.length ≤ 100) : o24v1 (hOf p s) (u ++ [t]) r = some ((0, hOf p t), u, r ++ [s]) := by
  unfold o24v1
  have hw : IntKind.wrap .i64 ((((u ++ [t]).length : Nat) : Int) - 1) = (u.length : Int) := by rw [concat_len, wr64 (by omega)]; omega
  rw [cndF (eq_f (by rw [concat_len]; omega)), gdT (dt (by simp; omega)), hw, gdT (dt (by rw [concat_len]; omega)), Int.toNat_natCast, getD_last, bdI, gdT (dt (by rw [concat_len]; omega)), List.take_left]
  rfl
theorem o24v2_eq {p : Ty9d3b88} {s t : Sta} {u r : List Sta} (hu : u.length ≤ 100) (hr : r.length ≤ 100) : o24v2 (hOf p s) u (r ++ [t]) = some ((0, hOf p t), u ++ [s], r) := by
  unfold o24v2
  have hw : IntKind.wrap .i64 ((((r ++ [t]).length : Nat) : Int) - 1) = (r.length : Int) := by rw [concat_len, wr64 (by omega)]; omega
  rw [cndF (eq_f (by rw [concat_len]; omega)), gdT (dt (by simp; omega)), hw, gdT (dt (by rw [concat_len]; omega)), Int.toNat_natCast, getD_last, bdI, gdT (dt (by rw [concat_len]; omega)), List.take_left]
  rfl
theorem o8v1_eq {p : Ty9d3b88} {s t : Sta} {u r : List Sta} (hu : u.length ≤ 100) (hr : r.length ≤ 100) : o8v1 (hOf p s) (u ++ [t]) r = some ((0, hOf p t), u, r ++ [s]) := by
  unfold o8v1; rw [bdS (o24v1_eq hu hr)]
theorem o11_eq {p : Ty9d3b88} {s t : Sta} {u r : List Sta} (hu : u.length ≤ 100) (hr : r.length ≤ 100) : o11 (hOf p s) u (r ++ [t]) = some ((0, hOf p t), u ++ [s], r) := by
  unfold o11; rw [bdS (o24v2_eq hu hr)]
def allOf (p : Ty9d3b88) (s : Sta) (u r : List Sta) : Ty24f116 := (((p.1.1, p.1.2), p.2.1, p.2.2, s.1.1), (s.1.2.1, s.1.2.2.1, s.1.2.2.2), s.2, u, r)
theorem o9_eq {p : Ty9d3b88} {s : Sta} {u r : List Sta} (hl : s.1.2.2.1.length ≤ 60) : o9 (allOf p s u r) = some (cond s.2 (((s.1.1, s.1.2.1), s.1.2.2.2, true), s.1.2.2.1) ((([], []), 0, false), [])) := by
  unfold o9
  obtain ⟨⟨F, T, E, A⟩, b⟩ := s
  cases b with
  | true =>
    refine Eq.trans (cndF rfl) ?_
    have h : o19 ((F, T), E, A) = some ((F, T, A), E) := o19_eq (a := ((F, T), E, A)) (by have : E.length ≤ 60 := hl; dsimp only; omega)
    exact bdS h
  | false => exact Eq.trans (cndT rfl) rfl
theorem o12_eq {p : Ty9d3b88} {s : Sta} {u r : List Sta} (hl : p.2.1.length ≤ 60) : o12 (allOf p s u r) = some ((p.1.1, p.1.2, p.2.2), p.2.1) := by
  unfold o12
  have h : o19 ((p.1.1, p.1.2), p.2.1, p.2.2) = some ((p.1.1, p.1.2, p.2.2), p.2.1) := o19_eq (a := ((p.1.1, p.1.2), p.2.1, p.2.2)) (by dsimp only; omega)
  exact bdS h
theorem o13_eq {p : Ty9d3b88} {s : Sta} {u r : List Sta} : o13 (hOf p s) u r = some (cond s.2 ((0, hOf p (([], [], [], 0), false)), [], []) ((8, hOf p s), u, r)) := by
  unfold o13
  obtain ⟨s1, b⟩ := s
  cases b with
  | true => exact Eq.trans (cndF rfl) rfl
  | false => exact Eq.trans (cndT rfl) rfl
theorem strEq_refl (x : List UInt8) : strEq x x = true := by rw [strEq_eq]; simp
theorem o25_refl (l : List Tya2e0c9) (hl : l.length ≤ 60) : o25 l l = some true := by
  unfold o25
  rw [cndF (neq_f rfl)]
  refine loop_cnt (n := l.length) (fun i => ((l, l), ((l.length : Nat) : Int), (i : Int))) (fun i hi => ?_) ?_ (by omega)
  · dsimp only
    rw [cndT (dt (by omega)), gdT (dt (by omega)), bdI, gdT (dt (by omega)), bdI]
    generalize List.getD l (i : Int).toNat Df4c50a0 = x
    rw [cndF (by simp [strEq_refl]), wr64 (by omega)]
    rfl
  · dsimp only
    rw [cndF (df (by omega))]
    rfl
theorem o10_refl (p : Ty9d3b88) (hl : p.2.1.length ≤ 60) : o10 p p = some true := by
  unfold o10
  rw [cndT (by simp), cndT (by simp), cndT (by simp), bdS (o25_refl _ hl)]
  rfl
def sz : Sta := (([], [], [], 0), false)
inductive Hist (p : Ty9d3b88) : List Pl → Sta → List Sta → Prop where
  | one : Hist p [toP p] sz []
  | more {ps : List Pl} {s : Sta} {u : List Sta} (h : Hist p ps s u) (q : Pl) : Hist p (ps ++ [q]) (q, true) (u ++ [s])
section
variable {p : Ty9d3b88} {ps : List Pl} {s : Sta} {u : List Sta}
theorem Hist.len (h : Hist p ps s u) : ps.length = u.length + 1 := by
  induction h with
  | one => rfl
  | more h q ih => rw [concat_len, concat_len, ih]
theorem Hist.last (h : Hist p ps s u) : ∃ l q, ps = l ++ [q] ∧ planOf p s = ofP q := by
  cases h with
  | one => exact ⟨[], toP p, rfl, rfl⟩
  | more h q => exact ⟨_, q, rfl, rfl⟩
theorem getD_left {α : Type} (l m : List α) (d : α) {i : Nat} (h : i < l.length) : List.getD (l ++ m) i d = List.getD l i d := by
  rw [List.getD_eq_getElem?_getD, List.getD_eq_getElem?_getD, List.getElem?_append_left h]
theorem Hist.nth (h : Hist p ps s u) : ∀ m, m < ps.length → List.getD (u ++ [s]) m sz = (if m = 0 then sz else (List.getD ps m Dfaac591, true)) := by
  induction h with
  | one => intro m hm; have : m = 0 := by simp at hm; omega
           subst this; rfl
  | more h q ih =>
    rename_i ps s u
    intro m hm
    have hl := h.len
    rw [concat_len] at hm
    by_cases e : m = ps.length
    · subst e
      rw [getD_last, if_neg (by omega)]
      have : ps.length = (u ++ [s]).length := by rw [concat_len, hl]
      rw [this, getD_last]
    · have hm : m < ps.length := by omega
      rw [getD_left _ _ _ hm, getD_left _ _ _ (by rw [concat_len]; omega)]
      exact ih m hm
end
def POk2 (ps : List Pl) : Prop := ∀ q ∈ ps, PlOk (ofP q) ∧ q.2.2.1.length ≤ 60
def edOf (x : Tyd205ef) : Ty90edd6 := (((x.1, x.2.1, x.2.2.1), x.2.2.2.1, x.2.2.2.2.1, x.2.2.2.2.2.1), (x.2.2.2.2.2.2.1.1, x.2.2.2.2.2.2.1.2, x.2.2.2.2.2.2.2.1), x.2.2.2.2.2.2.2.2)
theorem o5_eq {p : Ty9d3b88} (h : o4 p = some 0) (hl : p.2.1.length ≤ 60) : o5 p = some (.inr ((p.1, p.2.2, [], []), p.2.1)) := by
  unfold o5
  rw [bdS h, cndF (neq_f rfl), bdS (o19_eq (by omega))]
theorem at_of {α : Type} {u u1 r : List α} {s s1 d : α} (h : u1 ++ s1 :: r.reverse = u ++ [s]) : List.getD (u ++ [s]) u1.length d = s1 := by
  rw [← h]; simp [List.getD_eq_getElem?_getD]
theorem undo_plain (p : Ty9d3b88) (l : List Tyd205ef) (k : Int) (hp : PlOk p) (hl : ∀ x ∈ l, EdOk (edOf x)) (hk0 : 0 ≤ k) (hk1 : k ≤ 255) : Tot (fun r => r = true) (o3 p l k) := by
  unfold o3
  obtain ⟨v1, e4, h4⟩ := o4_t p hp.frm hp.dest hp.ents
  refine tB (P := fun v => v.1 = (l, k) ∧ v.2.2 = p ∧ (v.2.1 = false → l.length ≤ 16 ∧ p.2.1.length ≤ 60 ∧ o4 p = some 0)) ?_ fun v hv => ?_
  · refine bdU e4 (tC (fun _ => tS ⟨rfl, rfl, fun h => by cases h⟩) fun h => tS ⟨rfl, rfl, fun h2 => ?_⟩)
    have h := nF h
    have h2 := dF h2
    exact ⟨by omega, (h4 h).2.2.1, by rw [e4, h]⟩
  obtain ⟨e1, e2, h5⟩ := hv
  refine tC (fun _ => tS rfl) fun h => ?_
  obtain ⟨hn, hpl, e4⟩ := h5 h
  rw [e1, e2]
  refine bdU (t := Sum.inr ((l, k), p, (p.1, p.2.2, ([] : List UInt8), ([] : List UInt8)), p.2.1)) (Eq.trans (bdS (o5_eq e4 hpl)) rfl) ?_
  rw [smR]
  refine tL (fun t : Tyd31f6f => t.1.1 = (k, l) ∧ t.1.2.1 = ((l.length : Nat) : Int) ∧ 0 ≤ t.1.2.2 ∧ t.1.2.2 ≤ l.length ∧ ∃ s, t.2.1 = (p, hOf p s) ∧ Hist p t.2.2.1 s t.2.2.2 ∧ POk2 t.2.2.1 ∧ (t.2.2.1.length : Int) ≤ t.1.2.2 + 1) (fun t => ((l.length : Int) - t.1.2.2).toNat) ?_ ⟨rfl, rfl, Int.le_refl _, by simp, sz, rfl, Hist.one, ?_, by simp⟩ (by simp; omega)
  · rintro ⟨⟨kl, n, i⟩, ph, ps, u⟩ ⟨e1, e2, h6, h7, s, e3, hH, hO, h8⟩
    dsimp only at e1 e2 h6 h7 e3 hH hO h8 ⊢
    subst e1; subst e2; subst e3
    have hlen := hH.len
    have hw1 : IntKind.wrap .i64 (((ps.length : Nat) : Int) - 1) = (u.length : Int) := by rw [wr64 (by omega)]; omega
    refine tC (fun hc => ?_) fun _ => tDn ?_
    · have hc := dT hc
      refine tG (dt (by dsimp only; omega)) (tI ?_)
      have hx : EdOk (edOf (List.getD l i.toNat Dfbc384a)) := hl _ (getD_memE (by omega))
      dsimp only
      generalize List.getD l i.toNat Dfbc384a = x at hx
      rw [hw1]
      refine tG (dt (by omega)) (tI ?_)
      obtain ⟨l1, q, eps, epl⟩ := hH.last
      have eq : List.getD ps (u.length : Int).toNat Dfaac591 = q := by
        have : (u.length : Int).toNat = l1.length := by rw [eps, concat_len] at hlen; omega
        rw [this, eps, getD_last]
      rw [eq]
      have hq := (hO q (by rw [eps]; simp)).1
      obtain ⟨r, er, hr⟩ := o6_t (([], 0, 0), 0, 0, 0) (ofP q) (edOf x) hq hx
      refine bdU er ?_
      rw [← epl] at er
      refine bdU (o7v2_eq (p := p) (s := s) (u := u) (by omega) er fun h => (hr h).2) ?_
      have hwi : IntKind.wrap .i64 (i + 1) = i + 1 := wr64 (by omega)
      cases he : (r.1.2.2 != 0) with
      | true =>
        have he := nT he
        refine tC (fun h => absurd rfl (nT h)) fun _ => ?_
        refine tC (fun h => absurd (eT h) he) fun _ => tGo ?_
        rw [hwi]
        exact ⟨⟨rfl, rfl, by dsimp only; omega, by dsimp only; omega, s, rfl, hH, hO, by dsimp only; omega⟩, by dsimp only; omega⟩
      | false =>
        have he := nF he
        obtain ⟨hr1, hr2⟩ := hr he
        refine tC (fun h => absurd he.symm (nT h)) fun _ => ?_
        refine tC (fun _ => ?_) fun h => absurd he (eF h)
        refine tG (dt (by simp; omega)) (tGo ?_)
        rw [hwi]
        refine ⟨⟨rfl, rfl, by dsimp only; omega, by dsimp only; omega, _, rfl, hH.more (r.1.1.1, r.1.1.2, r.2, r.1.2.1), ?_, by dsimp only; rw [concat_len]; omega⟩, by dsimp only; omega⟩
        intro y hy
        rcases List.mem_append.1 hy with h | h
        · exact hO y h
        · have := List.mem_singleton.1 h
          subst this
          exact ⟨hr1, hr2⟩
    · rw [hw1, show IntKind.wrap .i64 ((u.length : Int) + 1) = (u.length : Int) + 1 from wr64 (by omega)]
      refine tG (dt (by omega)) ?_
      dsimp only
      rw [show IntKind.wrap .i64 k = k from wr64 (by omega)]
      obtain ⟨B, eB, hB⟩ : ∃ B : Nat, Int.tmod k ((u.length : Int) + 1) = (B : Int) ∧ B ≤ u.length := ⟨(Int.tmod k ((u.length : Int) + 1)).toNat, by
        have := Int.tmod_nonneg ((u.length : Int) + 1) hk0
        omega, by
        have := Int.tmod_lt_of_pos k (show (0 : Int) < (u.length : Int) + 1 by omega)
        have := Int.tmod_nonneg ((u.length : Int) + 1) hk0
        omega⟩
      rw [eB]
      have hsl : ∀ (u1 r : List Sta) (s1 : Sta), u1 ++ s1 :: r.reverse = u ++ [s] → s1.1.2.2.1.length ≤ 60 ∧ s1.2 = decide (0 < u1.length) ∧ (0 < u1.length → s1 = (List.getD ps u1.length Dfaac591, true)) ∧ u1.length + r.length = u.length := fun u1 r s1 e => by
        have hl2 := congrArg List.length e
        simp at hl2
        have h9 := at_of (d := sz) e
        rw [hH.nth u1.length (by omega)] at h9
        by_cases h0 : u1.length = 0
        · rw [if_pos h0] at h9
          rw [← h9]
          exact ⟨by decide, by rw [h0]; rfl, fun h => by omega, by omega⟩
        · rw [if_neg h0] at h9
          refine ⟨?_, ?_, fun _ => h9.symm, by omega⟩
          · rw [← h9]
            exact (hO _ (getD_memE (by omega))).2
          · rw [← h9]
            exact (dt (by omega)).symm
      refine tL (fun t : Ty5867c3 => t.1.1 = ((u.length : Int), (B : Int)) ∧ t.1.2.1 = (B : Int) ∧ 0 ≤ t.1.2.2 ∧ t.1.2.2 ≤ B ∧ t.2.2.1 = ps ∧ ∃ s1, t.2.1 = (p, hOf p s1) ∧ t.2.2.2.1 ++ s1 :: t.2.2.2.2.reverse = u ++ [s] ∧ (t.2.2.2.1.length : Int) + t.1.2.2 = u.length) (fun t => ((B : Int) - t.1.2.2).toNat) ?_ ⟨rfl, rfl, Int.le_refl _, by simp, rfl, s, rfl, rfl, by simp⟩ (by simp; omega)
      rintro ⟨⟨nb, n, i⟩, ph, ps1, u1, r⟩ ⟨e1, e2, h9, h10, e3, s1, e5, h11, h12⟩
      dsimp only at e1 e2 h9 h10 e3 e5 h11 h12 ⊢
      subst e1; subst e2; subst e3; subst e5
      obtain ⟨k1, k2, k3, k4⟩ := hsl u1 r s1 h11
      refine tC (fun hc => ?_) fun hc => tDn ?_
      · have hc := dT hc
        obtain ⟨u2, t, rfl⟩ : ∃ u2 t, u1 = u2 ++ [t] := by
          rcases List.eq_nil_or_concat u1 with e | ⟨u2, t, e⟩
          · subst e; simp at h12; omega
          · exact ⟨u2, t, by rw [e, List.concat_eq_append]⟩
        rw [concat_len] at h12 k4
        refine bdU (o8v1_eq (p := p) (s := s1) (by omega) (by omega)) ?_
        refine tC (fun h => absurd rfl (nT h)) fun _ => tGo ?_
        rw [show IntKind.wrap .i64 (i + 1) = i + 1 from wr64 (by omega)]
        refine ⟨⟨rfl, rfl, by dsimp only; omega, by dsimp only; omega, rfl, t, rfl, ?_, by dsimp only; omega⟩, by dsimp only; omega⟩
        simpa using h11
      · have hc := dF hc
        have hi : i = (B : Int) := by omega
        subst hi
        refine bdU (o9_eq (p := p) (s := s1) (u := u1) (r := r) k1) ?_
        refine tB (P := fun v => v.1.1 = ((u.length : Int), (B : Int)) ∧ v.1.2.1 = false ∧ v.1.2.2 = (p, hOf p s1) ∧ v.2.1.1 = ps1 ∧ v.2.2.1 = u1 ∧ v.2.2.2.1 = r) ?_ fun v hv => ?_
        · dsimp only
          rw [show decide ((B : Int) < (u.length : Int)) = s1.2 by rw [k2]; exact decide_eq_decide.2 (by omega)]
          obtain ⟨⟨F, T, E, A⟩, b⟩ := s1
          cases b with
          | false =>
            refine tC (fun h => by cases h) fun _ => ?_
            exact tC (fun h => by cases h) fun _ => tS ⟨rfl, rfl, rfl, rfl, rfl, rfl⟩
          | true =>
            refine tC (fun h => by cases h) fun _ => ?_
            refine tC (fun _ => ?_) fun h => by cases h
            have k2 : true = decide (0 < u1.length) := k2
            have k5 := k3 (dT k2.symm)
            rw [show IntKind.wrap .i64 ((u.length : Int) - (B : Int)) = (u1.length : Int) by rw [wr64 (by omega)]; omega]
            refine tG (dt (by omega)) (tI ?_)
            rw [Int.toNat_natCast]
            have k6 : List.getD ps1 u1.length Dfaac591 = (F, T, E, A) := (congrArg Prod.fst k5).symm
            rw [k6]
            refine bdU (o10_refl ((F, T), E, A) k1) (tS ⟨rfl, rfl, rfl, rfl, rfl, rfl⟩)
        · obtain ⟨⟨nb, bad, pp, hh⟩, ⟨ps2, g1⟩, u2, r2, g2⟩ := v
          obtain ⟨f1, f2, f3, f4, f5, f6⟩ := hv
          dsimp only at f1 f2 f3 f4 f5 f6 ⊢
          subst f1; subst f2; subst f4; subst f5; subst f6
          refine tC (fun h => by cases h) fun _ => ?_
          rw [f3]
          refine tL (fun t : Ty60ea91 => t.1.1 = ((u.length : Int), (B : Int)) ∧ 0 ≤ t.1.2.1 ∧ t.1.2.1 ≤ B ∧ t.2.1.1 = ps2 ∧ ∃ s1, t.1.2.2 = (p, hOf p s1) ∧ t.2.2.1 ++ s1 :: t.2.2.2.1.reverse = u ++ [s] ∧ (t.2.2.2.1.length : Int) + t.1.2.1 = B) (fun t => ((B : Int) - t.1.2.1).toNat) ?_ ⟨rfl, Int.le_refl _, by simp, rfl, s1, rfl, h11, by dsimp only; omega⟩ (by simp; omega)
          clear h11 h12 k1 k2 k3 k4 hc f3 h9 h10
          rintro ⟨⟨nb, i, pp, hh⟩, ⟨ps1, g1⟩, u1, r, g2⟩ ⟨e1, h9, h10, e3, s1, e5, h11, h12⟩
          dsimp only at e1 h9 h10 e3 e5 h11 h12 ⊢
          injection e5 with e5 e6
          subst e1; subst e3; subst e5; subst e6
          obtain ⟨k1, k2, k3, k4⟩ := hsl u1 r s1 h11
          refine tC (fun hc => ?_) fun hc => tDn ?_
          · have hc := dT hc
            obtain ⟨r3, t, rfl⟩ : ∃ r3 t, r = r3 ++ [t] := by
              rcases List.eq_nil_or_concat r with e | ⟨u2, t, e⟩
              · subst e; simp at h12; omega
              · exact ⟨u2, t, by rw [e, List.concat_eq_append]⟩
            rw [concat_len] at h12 k4
            refine bdU (o11_eq (s := s1) (by omega) (by omega)) ?_
            refine tC (fun h => absurd rfl (nT h)) fun _ => tGo ?_
            rw [show IntKind.wrap .i64 (i + 1) = i + 1 from wr64 (by omega)]
            refine ⟨⟨rfl, by dsimp only; omega, by dsimp only; omega, rfl, t, rfl, ?_, by dsimp only; omega⟩, by dsimp only; omega⟩
            simpa using h11
          · have hc := dF hc
            have hr0 : r = [] := List.eq_nil_of_length_eq_zero (by omega)
            subst hr0
            have hu1 : u1.length = u.length := by simpa using k4
            refine bdU (o9_eq (s := s1) (u := u1) (r := []) k1) ?_
            refine tB (P := fun v => v.1.1 = s1.2 ∧ v.1.2.1 = false ∧ v.1.2.2 = pp ∧ v.2.1 = hOf pp s1 ∧ v.2.2.1 = u1 ∧ v.2.2.2 = []) ?_ fun v hv => ?_
            · dsimp only
              rw [show decide ((u.length : Int) > 0) = s1.2 by rw [k2]; exact decide_eq_decide.2 (by omega)]
              obtain ⟨⟨F, T, E, A⟩, b⟩ := s1
              cases b with
              | false =>
                refine tC (fun h => by cases h) fun _ => ?_
                refine tC (fun h => by cases h) fun _ => ?_
                refine bdU (o12_eq (p := pp) (s := ((F, T, E, A), false)) (u := u1) (r := []) hpl) ?_
                exact bdU (o10_refl pp hpl) (tS ⟨rfl, rfl, rfl, rfl, rfl, rfl⟩)
              | true =>
                refine tC (fun h => by cases h) fun _ => ?_
                refine tC (fun _ => ?_) fun h => by cases h
                have k2 : true = decide (0 < u1.length) := k2
                have k5 := k3 (dT k2.symm)
                refine tG (dt (by omega)) (tI ?_)
                rw [Int.toNat_natCast, ← hu1]
                have k6 : List.getD ps1 u1.length Dfaac591 = (F, T, E, A) := (congrArg Prod.fst k5).symm
                rw [k6]
                refine bdU (o10_refl ((F, T), E, A) k1) ?_
                refine tC (fun h => by cases h) fun _ => ?_
                refine bdU (o12_eq (p := pp) (s := ((F, T, E, A), true)) (u := u1) (r := []) hpl) ?_
                exact bdU (o10_refl pp hpl) (tS ⟨rfl, rfl, rfl, rfl, rfl, rfl⟩)
            · obtain ⟨⟨has, bad, p4⟩, h4, u4, r4⟩ := v
              obtain ⟨f1, f2, f3, f4, f5, f6⟩ := hv
              dsimp only at f1 f2 f3 f4 f5 f6 ⊢
              subst f1; subst f2; subst f3; subst f4; subst f5; subst f6
              refine tC (fun h => by cases h) fun _ => ?_
              obtain ⟨⟨F, T, E, A⟩, b⟩ := s1
              cases b with
              | false =>
                refine tC (fun _ => ?_) fun h => by cases h
                exact bdU o13_eq (tS rfl)
              | true =>
                refine tC (fun h => by cases h) fun _ => ?_
                refine bdU (o9_eq (p := p4) (s := ((F, T, E, A), true)) (u := u4) (r := []) k1) ?_
                refine tB (P := fun v => v = ((false, p4), hOf p4 sz, [], [])) (bdU o13_eq (tC (fun h => absurd rfl (nT h)) fun _ => tS rfl)) fun v hv => ?_
                rw [hv]
                refine tC (fun h => by cases h) fun _ => ?_
                refine bdU (o9_eq (p := p4) (s := sz) (u := []) (r := []) (by decide)) ?_
                refine tB (P := fun v => v = true) ?_ fun v hv => by rw [hv]; exact tS rfl
                refine tC (fun _ => ?_) fun h => by cases h
                refine bdU (o12_eq (p := p4) (s := sz) (u := []) (r := []) hpl) ?_
                exact bdU (o10_refl p4 hpl) (tS rfl)
  · intro q hq
    have := List.mem_singleton.1 hq
    subst this
    exact ⟨hp, hpl⟩
theorem slots_of {g : Gh} {ρ : Env} {bl : List BV} : ∀ {l : List SV} {vs : List Value} (i : Nat), All2 (RealS g ρ bl) l vs → ∀ t sv, getH (argH i l) t = some sv → ∃ v, getS (argS i vs) t = some v ∧ RealS g ρ bl sv v
  | [], [], i, _, t, sv, e => by cases e
  | s :: l, v :: vs, i, h, t, sv, e => by
    have e : cond (Nat.beq i t) (some s) (getH (argH (i + 1) l) t) = some sv := e
    show ∃ u, cond (Nat.beq i t) (some v) (getS (argS (i + 1) vs) t) = some u ∧ _
    cases hb : Nat.beq i t with
    | true => rw [hb] at e; injection e with e; subst e; exact ⟨v, rfl, h.1⟩
    | false => rw [hb] at e; exact slots_of (i + 1) h.2 t sv e
  | [], _ :: _, _, h, _, _, _ => h.elim
  | _ :: _, [], _, h, _, _, _ => h.elim
def r0 : List Sch := [⟨[(0, .v (.c .b))], []⟩]
theorem law_of_fok {P : Program} {f : FuncId} {ps : Sch} {run : HT ps.tr → Option Bool} (h : FOk P f ⟨ps, r0, run⟩) {t : HT ps.tr} (hr : run t = some true) (l : List SV) (hc : conT ps t = some ⟨argH 0 l, []⟩) {W : World} (hW : GI (psiOf W)) {vs : List Value}
    (hv : All2 (RealS (gh0 W) (fun _ => (none, 0)) []) l vs) (hl : vs.length = ps.sl.length) : Calls P f vs.toArray W fun e w' => e = .returned (.bool true) ∧ Below W.heap.size W w' := by
  have hR : Rl (gh0 W) (fun _ => (none, 0)) ⟨argH 0 l, []⟩ [] (argS 0 vs) := ⟨rfl, fun i bv k e => (by cases e), fun t sv e => slots_of 0 hv t sv e, hW⟩
  refine law_of_ctr (P := P) (f := f) (args := vs) ((h t true _ hr hc (gh0 W) _ [] vs hR hl).mono fun v ψ o hle ⟨str, ρ', h1, h2, h3, h4⟩ => ?_)
  have e : altC r0 true = some ⟨[(0, vC (.bool true))], []⟩ := rfl
  have h1 : altC r0 true = some str := h1
  rw [e] at h1
  injection h1 with h1; subst h1
  obtain ⟨u, h5, h6⟩ := h3.slot 0 _ rfl
  injection h5 with h5
  have h6 : u = .bool true := h6
  have hlen : o.length = 0 := h3.len
  exact ⟨List.length_eq_zero_iff.1 hlen, by rw [h5, h6]⟩
section
variable {P : Program} {t : TypeId}
theorem opIR {k : IntKind} (ht : P.underlying t = some (.int k)) : Opens P t (tyIR k) (fun _ => True) := fun h hw => by
  obtain ⟨x, h1, h2⟩ := opens_int ht h hw
  exact ⟨x, ⟨h1, h2⟩, trivial⟩
theorem opBR (ht : P.underlying t = some .bool) : Opens P t tyB (fun _ => True) := opens_bool ht
theorem opSR (ht : P.underlying t = some .string) : Opens P t tySR (fun _ => True) := fun h hw => by
  obtain ⟨x, h1, h2⟩ := opens_str ht h hw
  exact ⟨x, ⟨h1, h2⟩, trivial⟩
end
open Go.RowKit Go.WideShapes Go.ChangeShapes Go.ChangeAt
def flG {H : Type} (f : DataW H → Option (List Lit)) : List (DataW H) → Option (List Lit)
  | [] => some []
  | d :: r => match f d, flG f r with | some a, some b => some (a ++ b) | _, _ => none
def flD {H : Type} : Nat → DataW H → Option (List Lit)
  | _ + 1, .lit x => some [x]
  | n + 1, .agg l => flG (flD n) l
  | _, _ => none
def litV : Lit → Value
  | .int k n => .int k n
  | .bool b => .bool b
  | .string l => .string (mkS l)
  | _ => undef
def contig (P : Program) : Nat → List Field → Option Nat
  | off, [] => some off
  | off, f :: l => cond (Nat.beq f.offset off) (contig P (off + P.cellsOf f.type) l) none
def okT (P : Program) : Nat → TypeId → Bool
  | 0, _ => false
  | d + 1, t => match P.underlying t with
    | some (.struct fs) => (match contig P 0 fs.toList with | some e => Nat.beq e (P.cellsOf t) | none => false) && fs.toList.all fun f => okT P d f.type
    | some (.array n e) => Nat.beq (n * P.cellsOf e) (P.cellsOf t) && okT P d e
    | some (.int _) => true
    | some .bool => true
    | some .string => true
    | _ => false
section
variable {H : Type} {enc : TypeId × Value → H} {P : Program} {w : World} {base : Nat} {spare : Nat → Bool} {held : Bool}
theorem contig_le : ∀ {l : List Field} {off e : Nat}, contig P off l = some e → off ≤ e
  | [], off, e, h => by injection h with h; omega
  | f :: l, off, e, h => by
    have h : cond (Nat.beq f.offset off) (contig P (off + P.cellsOf f.type) l) none = some e := h
    obtain ⟨_, h⟩ := condS h
    have := contig_le h
    omega
theorem take_two {α : Type} (cs : List α) (off sz e : Nat) (h : off + sz ≤ e) : (cs.drop off).take (e - off) = (cs.drop off).take sz ++ (cs.drop (off + sz)).take (e - (off + sz)) := by
  rw [← List.drop_drop, show e - off = sz + (e - (off + sz)) by omega, List.take_add]
theorem fl_go {n m : Nat} {cs : List Value} (ih : ∀ {t : TypeId} {n : Nat} {cs : List Value} {y : DataW H × List MemPlace} {ls : List Lit}, okT P m t = true → DataW.trod enc P w base spare held n t cs = some y → flD m y.1 = some ls → cs = ls.map litV) :
    ∀ (l : List Field) (ys : List (DataW H × List MemPlace)) (off e : Nat) (ls : List Lit), contig P off l = some e → (l.all fun f => okT P m f.type) = true → (∀ (i : Nat) f, l[i]? = some f → DataW.trod enc P w base spare held n f.type ((cs.drop f.offset).take (P.cellsOf f.type)) = ys[i]?) → ys.length = l.length → flG (flD m) (ys.map (·.1)) = some ls → (cs.drop off).take (e - off) = ls.map litV
  | [], [], off, e, ls, h, _, _, _, h3 => by
    injection h with h; subst h
    have h3 : some [] = some ls := h3
    injection h3 with h3; subst h3
    simp
  | f :: l, y :: ys, off, e, ls, h, h1, h2, hl, h3 => by
    have h : cond (Nat.beq f.offset off) (contig P (off + P.cellsOf f.type) l) none = some e := h
    obtain ⟨ho, h⟩ := condS h
    have ho := Nat.eq_of_beq_eq_true ho
    have hle := contig_le h
    rw [List.all_cons, Bool.and_eq_true] at h1
    have h3 : (match flD m y.1, flG (flD m) (ys.map (·.1)) with | some a, some b => some (a ++ b) | _, _ => none) = some ls := h3
    split at h3
    · rename_i a b ha hb
      injection h3 with h3; subst h3
      have hy := ih h1.1 (h2 0 f rfl) ha
      have hr := fl_go ih l ys _ e b h h1.2 (fun i f hf => h2 (i + 1) f hf) (by simpa using hl) hb
      rw [take_two cs off _ e hle, List.map_append, ← hr, ← ho, ← hy]
    · cases h3
  | [], _ :: _, _, _, _, _, _, _, hl, _ => by cases hl
  | _ :: _, [], _, _, _, _, _, _, hl, _ => by cases hl
theorem fl_arr {n m : Nat} {e : TypeId} {cs : List Value} (he : okT P m e = true) (ih : ∀ {t : TypeId} {n : Nat} {cs : List Value} {y : DataW H × List MemPlace} {ls : List Lit}, okT P m t = true → DataW.trod enc P w base spare held n t cs = some y → flD m y.1 = some ls → cs = ls.map litV) :
    ∀ (k i : Nat) (ys : List (DataW H × List MemPlace)) (ls : List Lit), (∀ (j : Nat), j < k → DataW.trod enc P w base spare held n e ((cs.drop ((i + j) * P.cellsOf e)).take (P.cellsOf e)) = ys[j]?) → ys.length = k → flG (flD m) (ys.map (·.1)) = some ls → (cs.drop (i * P.cellsOf e)).take (k * P.cellsOf e) = ls.map litV
  | 0, i, [], ls, _, _, h3 => by
    have h3 : some [] = some ls := h3
    injection h3 with h3; subst h3
    simp
  | k + 1, i, y :: ys, ls, h2, hl, h3 => by
    have h3 : (match flD m y.1, flG (flD m) (ys.map (·.1)) with | some a, some b => some (a ++ b) | _, _ => none) = some ls := h3
    split at h3
    · rename_i a b ha hb
      injection h3 with h3; subst h3
      have hy := ih he (h2 0 (by omega)) ha
      rw [Nat.add_zero] at hy
      have hr := fl_arr he ih k (i + 1) ys b (fun j hj => by
        have := h2 (j + 1) (by omega)
        rw [show i + (j + 1) = i + 1 + j by omega] at this
        exact this) (by simpa using hl) hb
      have := take_two cs (i * P.cellsOf e) (P.cellsOf e) (i * P.cellsOf e + (k + 1) * P.cellsOf e) (by rw [Nat.succ_mul]; omega)
      rw [Nat.add_sub_cancel_left] at this
      rw [this, List.map_append, ← hr, hy, Nat.succ_mul k, Nat.succ_mul i]
      congr 2
      omega
    · cases h3
  | 0, _, _ :: _, _, _, hl, _ => by cases hl
  | _ + 1, _, [], _, _, hl, _ => by cases hl
theorem flD_ok : ∀ (d : Nat) {t : TypeId} {n : Nat} {cs : List Value} {y : DataW H × List MemPlace} {ls : List Lit}, okT P d t = true → DataW.trod enc P w base spare held n t cs = some y → flD d y.1 = some ls → cs = ls.map litV
  | 0, t, n, cs, y, ls, h, _, _ => by cases h
  | d + 1, t, n, cs, y, ls, h, ht, hl => by
    unfold okT at h
    split at h
    · rename_i fs hu
      rw [Bool.and_eq_true] at h
      obtain ⟨h1, h2⟩ := h
      split at h1
      · rename_i e he
        have h1 := Nat.eq_of_beq_eq_true h1
        obtain ⟨xs, m, _, rfl, hc, hx, hf⟩ := DataW.trod_struct hu ht
        have := fl_go (n := m) (cs := cs) (fun h ht hl => flD_ok d h ht hl) fs.toList xs 0 e ls he h2 (fun i f hi => hf i f (by rw [← Array.getElem?_toList]; exact hi)) (by simpa using hx) hl
        rw [List.drop_zero, Nat.sub_zero, List.take_of_length_le (by omega)] at this
        exact this
      · cases h1
    · rename_i k e hu
      rw [Bool.and_eq_true] at h
      obtain ⟨h1, h2⟩ := h
      have h1 := Nat.eq_of_beq_eq_true h1
      obtain ⟨xs, m, _, rfl, hc, hx, hf⟩ := DataW.trod_array hu ht
      have := fl_arr (n := m) (cs := cs) h2 (fun h ht hl => flD_ok d h ht hl) k 0 xs ls (fun j hj => by rw [Nat.zero_add]; exact hf j hj) hx hl
      rw [Nat.zero_mul, List.drop_zero, List.take_of_length_le (by omega)] at this
      exact this
    · rename_i k hu
      obtain ⟨z, rfl, rfl, _⟩ := DataW.trod_int hu ht
      injection hl with hl; subst hl; rfl
    · rename_i hu
      obtain ⟨z, rfl, rfl⟩ := DataW.trod_bool hu ht
      injection hl with hl; subst hl; rfl
    · rename_i hu
      obtain ⟨z, rfl, rfl, _⟩ := DataW.trod_string hu ht
      injection hl with hl; subst hl
      show [Value.string z] = [Value.string (mkS z.data.toList)]
      simp [mkS]
    · cases h
end
theorem laid_cells {P : Program} {W : World} : ∀ {ds : List (String × DataW Unit)} {ps : List MemPlace}, DataW.LaidVars P W ds ps → ∀ (i : Nat) (nm : String) (d : DataW Unit) (g : Nat) (t : TypeId) (dep : Nat) (ls : List Lit), ds[i]? = some (nm, d) → P.globalNamed nm = some g → (P.globals[g]?).map (·.type) = some t → okT P dep t = true → flD dep d = some ls → Cells (psiOf W) ⟨g, 0, none⟩ (ls.map litV)
  | [], ps, _, i, nm, d, g, t, dep, ls, h1, _, _, _, _ => by cases h1
  | (n, d0) :: ds, ps, h, 0, nm, d, g, t, dep, ls, h1, h3, h4, h5, h6 => by
    obtain ⟨g0, t0, cs0, f0, p0, q0, hg0, ht0, hv0, hd0, _, _⟩ := h
    injection h1 with h1
    injection h1 with h1 h2
    subst h1; subst h2
    obtain rfl := Option.some.inj (h3.symm.trans hg0)
    obtain rfl := Option.some.inj (h4.symm.trans ht0)
    have hcs := flD_ok dep h5 hd0 h6
    intro j v hj
    rw [← hcs] at hj
    rw [addr_add, Nat.zero_add]
    have := World.var?_cell hg0 hv0 j
    have e : W.cell? ⟨g, j, none⟩ = some v := by rw [this]; simpa using hj
    unfold World.cell? at e
    unfold Psi.cell? psiOf
    exact e
  | (n, d0) :: ds, ps, h, i + 1, nm, d, g, t, dep, ls, h1, h3, h4, h5, h6 => by
    obtain ⟨g0, t0, cs0, f0, p0, q0, hg0, ht0, hv0, hd0, hr, _⟩ := h
    exact laid_cells hr i nm d g t dep ls h1 h3 h4 h5 h6
theorem laid_gp {P : Program} {W : World} {ds : List (String × DataW Unit)} {ps : List MemPlace} (h : DataW.LaidVars P W ds ps) (i : Nat) (nm : String) (d : DataW Unit) (g : Nat) (t : TypeId) (dep : Nat) (ls : List Lit) {c : Cd} {x : c.den} {cs : List Value} (h2 : encV c x = some cs) (h1 : ds[i]? = some (nm, d)) (h3 : P.globalNamed nm = some g) (h4 : (P.globals[g]?).map (·.type) = some t) (h5 : okT P dep t = true) (h6 : flD dep d = some ls) (he : encV c x = some (ls.map litV)) : Cells (psiOf W) ⟨g, 0, none⟩ cs := by
  rw [h2] at he
  injection he with he
  rw [he]
  exact laid_cells h i nm d g t dep ls h1 h3 h4 h5 h6
theorem getG_mem : ∀ {l : List (Nat × GDV)} {k : Nat} {d : GDV}, getG l k = some d → (k, d) ∈ l
  | [], k, d, h => by cases h
  | (j, e) :: l, k, d, h => by
    have h : cond (Nat.beq j k) (some e) (getG l k) = some d := h
    cases hb : Nat.beq j k with
    | true =>
      rw [hb] at h; injection h with h; subst h
      rw [Nat.eq_of_beq_eq_true hb]
      exact List.mem_cons_self ..
    | false => rw [hb] at h; exact List.mem_cons_of_mem _ (getG_mem h)
def txtOk : (c : Cd) → c.den → Prop
  | .s, x => List.length (α := UInt8) x ≤ 140737488355328
  | .a c, x => ∀ y : c.den, List.Mem (α := c.den) y x → txtOk c y
  | .p c d, x => txtOk c x.1 ∧ txtOk d x.2
  | _, _ => True
theorem reps_mem {α : Type} {T : Ty α} {p : Psi} : ∀ {xs : List α} {cs : List Value} {y : α}, Reps T p cs xs → y ∈ xs → ∃ c, T.rep p c y
  | [], cs, y, _, h => by cases h
  | x :: xs, cs, y, h, hy => by
    obtain ⟨c1, c2, _, h1, h2⟩ := h
    rcases List.mem_cons.1 hy with e | e
    · rw [e]; exact ⟨_, h1⟩
    · exact reps_mem h2 e
theorem txtOk_of {p : Psi} : ∀ (c : Cd) {x : c.den} {cs : List Value}, c.ty.rep p cs x → txtOk c x
  | .i _, _, _, _ => trivial
  | .y, _, _, _ => trivial
  | .b, _, _, _ => trivial
  | .s, x, cs, h => h.2
  | .a c, x, cs, h => fun y hy => by
    obtain ⟨A, cap, e, h2⟩ : ∃ A cap, cs = [.slice A (List.length (α := c.den) x) cap] ∧ Arr p c.ty A cap x := h
    obtain ⟨_, _, cs2, hr, _⟩ := h2
    obtain ⟨c2, h3⟩ := reps_mem hr hy
    exact txtOk_of c h3
  | .p c d, x, cs, h => by
    obtain ⟨c1, c2, e, h1, h2⟩ : ∃ c1 c2, cs = c1 ++ c2 ∧ c.ty.rep p c1 x.1 ∧ d.ty.rep p c2 x.2 := h
    exact ⟨txtOk_of c h1, txtOk_of d h2⟩
theorem txtOk_arr {p : Psi} {c : Cd} {A : Option Addr} {cap : Nat} {xs : List c.den} (h : Arr p c.ty A cap xs) : ∀ y ∈ xs, txtOk c y := fun y hy => by
  obtain ⟨_, _, cs2, hr, _⟩ := h
  obtain ⟨c2, h3⟩ := reps_mem hr hy
  exact txtOk_of c h3
def cLeg : Cd := .p (.i .u8) (.p .s (.p .s (.p (.i .u8) (.p .b (.p (.i .i64) (.p (.i .i64) (.p (.i .i64) (.p (.i .i64) (.p (.p (.i .i64) (.i .i64)) (.p (.i .i64) (.i .i64)))))))))))
def cEnt : Cd := .p .b (.p cLeg (.p (.p (.i .i64) (.i .i64)) (.p (.p (.i .i64) (.i .i64)) (.p (.i .u8) .s))))
def cPln : Cd := .p .s (.p .s (.p (.a cEnt) (.i .i64)))
def cEdi : Cd := .p (.i .u8) (.p (.i .i64) (.p .s (.p .s (.p .s (.p .s (.p (.p (.i .i64) (.i .i64)) (.p (.i .i64) (.p (.i .i64) (.p (.i .i64) (.i .u8))))))))))
theorem undo_law {p q : Psi} {x0 : List UInt8 × List UInt8 × List Tya2e0c9 × Int} {cs : List Value} (z : (Cd.ty cPln).rep p cs x0) {A : Option Addr} {cap : Nat} {x1 : List Tyd205ef} (fl : Arr q (Cd.ty cEdi) A cap x1) {k : Int} (hk : inK .u8 k) : o3 ((x0.1, x0.2.1), x0.2.2.1, x0.2.2.2) x1 k = some true := by
  have h0 := txtOk_of cPln z
  have h1 := txtOk_arr (c := cEdi) fl
  have hk : 0 ≤ k ∧ k ≤ 255 := by simpa [inK, IntKind.min, IntKind.max, IntKind.signed, IntKind.bits] using hk
  obtain ⟨r, e, hr⟩ := undo_plain ((x0.1, x0.2.1), x0.2.2.1, x0.2.2.2) x1 k ⟨h0.1, h0.2.1, fun y hy => by
    have h := h0.2.2.1 y hy
    exact ⟨h.2.1.2.1, h.2.1.2.2.1, h.2.2.2.2.2⟩⟩ (fun x hx => by
    have h := h1 x hx
    exact ⟨h.2.2.1, h.2.2.2.1, h.2.2.2.2.1, h.2.2.2.2.2.1⟩) hk.1 hk.2
  rw [e, hr]
def laidU : List (String × DataW Unit) := Rows.topUndoRow.laid
theorem door_met (os : Os) (args : Array Value) : laidMetH Tryz.prog laidU ((World.doorLaid Tryz.prog 400 os).forCall (fun _ _ => 0) ⟨#[], args, []⟩).memory :=
  laidMetH_of_parts3 (fuel := 8) (laidMet_of_run' 8 (by kernel_rfl) (by kernel_rfl)) (by kernel_rfl) (by kernel_rfl)
theorem gi_of {W : World} (h : laidMetH Tryz.prog laidU W) : GI (psiOf W) := by
  refine ⟨fun _ _ => trivial, fun k d cs h1 h2 => ?_⟩
  rw [MakeChecks.laidMetH_plain _ _ _ (by kernel_rfl)] at h
  obtain ⟨ps, hv, _, _⟩ := h
  have hm := getG_mem h1
  rcases List.mem_cons.1 hm with e | hm
  · injection e with e1 e2; subst e1; subst e2
    exact laid_gp hv 0 "flightdeck/leg.uses" Rows.laid_flightdeck_leg_uses 1 103 9 [.int .u16 0, .int .u16 1, .int .u16 9, .int .u16 25, .int .u16 9, .int .u16 71, .int .u16 71, .int .u16 16, .int .u16 50, .int .u16 16, .int .u16 146, .int .u16 17, .int .u16 49, .int .u16 17, .int .u16 53, .int .u16 53, .int .u16 53, .int .u16 53] h2 (by kernel_rfl) (by kernel_rfl) (by kernel_rfl) (by kernel_rfl) (by kernel_rfl) (by kernel_rfl)
  rcases List.mem_cons.1 hm with e | hm
  · injection e with e1 e2; subst e1; subst e2
    exact laid_gp hv 1 "flightdeck/edit.forms" Rows.laid_flightdeck_edit_forms 0 89 9 [.string [], .string [], .string [73, 78, 83, 69, 82, 84], .string [97, 114], .string [68, 69, 76, 69, 84, 69], .string [97], .string [68, 73, 82, 69, 67, 84], .string [97], .string [65, 76, 84], .string [97, 104], .string [83, 80, 68], .string [97, 115], .string [82, 78, 80], .string [97, 100], .string [72, 79, 76, 68], .string [97, 99, 100, 117], .string [65, 73, 82, 87, 65, 89], .string [97, 114, 110], .string [68, 69, 80, 65, 82, 84, 85, 82, 69], .string [110, 119, 116], .string [65, 82, 82, 73, 86, 65, 76], .string [110, 119, 116], .string [65, 80, 80, 82, 79, 65, 67, 72], .string [110, 116], .string [68, 73, 86, 69, 82, 84], .string [97, 110]] h2 (by kernel_rfl) (by kernel_rfl) (by kernel_rfl) (by kernel_rfl) (by kernel_rfl) (by kernel_rfl)
  rcases List.mem_cons.1 hm with e | hm
  · injection e with e1 e2; subst e1; subst e2
    exact laid_gp hv 2 "flightdeck/edit.gap" Rows.laid_flightdeck_edit_gap 2 63 9 [.bool true, .int .u8 0, .string [], .string [], .int .u8 0, .bool false, .int .i64 0, .int .i64 0, .int .i64 0, .int .i64 0, .int .i64 0, .int .i64 0, .int .i64 0, .int .i64 0, .int .i64 0, .int .i64 0, .int .i64 0, .int .i64 0, .int .u8 0, .string []] h2 (by kernel_rfl) (by kernel_rfl) (by kernel_rfl) (by kernel_rfl) (by kernel_rfl) (by kernel_rfl)
  rcases List.mem_cons.1 hm with e | hm
  · injection e with e1 e2; subst e1; subst e2
    exact laid_gp hv 3 "flightdeck/edit.free" Rows.laid_flightdeck_edit_free 3 34 9 [.int .i64 (-200000), .int .i64 6000000] h2 (by kernel_rfl) (by kernel_rfl) (by kernel_rfl) (by kernel_rfl) (by kernel_rfl) (by kernel_rfl)
  cases hm
theorem opH34 : Opens Tryz.prog 34 (Cd.ty (.p (.i .i64) (.i .i64))) (fun _ => True) := by
  intro H enc w base spare held fuel cs d pl h hw
  obtain ⟨hlen, hf⟩ := struct_fields Tryz.underlying34 h hw
  rw [show Tryz.prog.cellsOf 34 = 2 by kernel_rfl] at hlen
  match cs, hlen with
  | [c0, c1], _ =>
    obtain ⟨n0, d0, p0, h0, w0⟩ := hf 0 _ rfl
    simp [show Tryz.prog.cellsOf 2 = 1 by kernel_rfl] at h0
    obtain ⟨x0, r0, _⟩ := (opIR Tryz.underlying2) h0 w0
    obtain ⟨n1, d1, p1, h1, w1⟩ := hf 1 _ rfl
    simp [show Tryz.prog.cellsOf 2 = 1 by kernel_rfl] at h1
    obtain ⟨x1, r1, _⟩ := (opIR Tryz.underlying2) h1 w1
    exact ⟨(x0, x1), ⟨[c0], [c1], rfl, r0, r1⟩, trivial⟩
theorem opH59 : Opens Tryz.prog 59 (Cd.ty (.p (.i .u8) (.p .s (.p .s (.p (.i .u8) (.p .b (.p (.i .i64) (.p (.i .i64) (.p (.i .i64) (.p (.i .i64) (.p (.p (.i .i64) (.i .i64)) (.p (.i .i64) (.i .i64))))))))))))) (fun _ => True) := by
  intro H enc w base spare held fuel cs d pl h hw
  obtain ⟨hlen, hf⟩ := struct_fields Tryz.underlying59 h hw
  rw [show Tryz.prog.cellsOf 59 = 13 by kernel_rfl] at hlen
  match cs, hlen with
  | [c0, c1, c2, c3, c4, c5, c6, c7, c8, c9, c10, c11, c12], _ =>
    obtain ⟨n0, d0, p0, h0, w0⟩ := hf 0 _ rfl
    simp [show Tryz.prog.cellsOf 57 = 1 by kernel_rfl] at h0
    obtain ⟨x0, r0, _⟩ := (opIR Tryz.underlying57) h0 w0
    obtain ⟨n1, d1, p1, h1, w1⟩ := hf 1 _ rfl
    simp [show Tryz.prog.cellsOf 9 = 1 by kernel_rfl] at h1
    obtain ⟨x1, r1, _⟩ := (opSR Tryz.underlying9) h1 w1
    obtain ⟨n2, d2, p2, h2, w2⟩ := hf 2 _ rfl
    simp [show Tryz.prog.cellsOf 9 = 1 by kernel_rfl] at h2
    obtain ⟨x2, r2, _⟩ := (opSR Tryz.underlying9) h2 w2
    obtain ⟨n3, d3, p3, h3, w3⟩ := hf 3 _ rfl
    simp [show Tryz.prog.cellsOf 5 = 1 by kernel_rfl] at h3
    obtain ⟨x3, r3, _⟩ := (opIR Tryz.underlying5) h3 w3
    obtain ⟨n4, d4, p4, h4, w4⟩ := hf 4 _ rfl
    simp [show Tryz.prog.cellsOf 4 = 1 by kernel_rfl] at h4
    obtain ⟨x4, r4, _⟩ := (opBR Tryz.underlying4) h4 w4
    obtain ⟨n5, d5, p5, h5, w5⟩ := hf 5 _ rfl
    simp [show Tryz.prog.cellsOf 2 = 1 by kernel_rfl] at h5
    obtain ⟨x5, r5, _⟩ := (opIR Tryz.underlying2) h5 w5
    obtain ⟨n6, d6, p6, h6, w6⟩ := hf 6 _ rfl
    simp [show Tryz.prog.cellsOf 2 = 1 by kernel_rfl] at h6
    obtain ⟨x6, r6, _⟩ := (opIR Tryz.underlying2) h6 w6
    obtain ⟨n7, d7, p7, h7, w7⟩ := hf 7 _ rfl
    simp [show Tryz.prog.cellsOf 2 = 1 by kernel_rfl] at h7
    obtain ⟨x7, r7, _⟩ := (opIR Tryz.underlying2) h7 w7
    obtain ⟨n8, d8, p8, h8, w8⟩ := hf 8 _ rfl
    simp [show Tryz.prog.cellsOf 2 = 1 by kernel_rfl] at h8
    obtain ⟨x8, r8, _⟩ := (opIR Tryz.underlying2) h8 w8
    obtain ⟨n9, d9, p9, h9, w9⟩ := hf 9 _ rfl
    simp [show Tryz.prog.cellsOf 34 = 2 by kernel_rfl] at h9
    obtain ⟨x9, r9, _⟩ := opH34 h9 w9
    obtain ⟨n10, d10, p10, h10, w10⟩ := hf 10 _ rfl
    simp [show Tryz.prog.cellsOf 2 = 1 by kernel_rfl] at h10
    obtain ⟨x10, r10, _⟩ := (opIR Tryz.underlying2) h10 w10
    obtain ⟨n11, d11, p11, h11, w11⟩ := hf 11 _ rfl
    simp [show Tryz.prog.cellsOf 2 = 1 by kernel_rfl] at h11
    obtain ⟨x11, r11, _⟩ := (opIR Tryz.underlying2) h11 w11
    exact ⟨(x0, x1, x2, x3, x4, x5, x6, x7, x8, x9, x10, x11), ⟨[c0], [c1] ++ [c2] ++ [c3] ++ [c4] ++ [c5] ++ [c6] ++ [c7] ++ [c8] ++ [c9, c10] ++ [c11] ++ [c12], rfl, r0, ⟨[c1], [c2] ++ [c3] ++ [c4] ++ [c5] ++ [c6] ++ [c7] ++ [c8] ++ [c9, c10] ++ [c11] ++ [c12], rfl, r1, ⟨[c2], [c3] ++ [c4] ++ [c5] ++ [c6] ++ [c7] ++ [c8] ++ [c9, c10] ++ [c11] ++ [c12], rfl, r2, ⟨[c3], [c4] ++ [c5] ++ [c6] ++ [c7] ++ [c8] ++ [c9, c10] ++ [c11] ++ [c12], rfl, r3, ⟨[c4], [c5] ++ [c6] ++ [c7] ++ [c8] ++ [c9, c10] ++ [c11] ++ [c12], rfl, r4, ⟨[c5], [c6] ++ [c7] ++ [c8] ++ [c9, c10] ++ [c11] ++ [c12], rfl, r5, ⟨[c6], [c7] ++ [c8] ++ [c9, c10] ++ [c11] ++ [c12], rfl, r6, ⟨[c7], [c8] ++ [c9, c10] ++ [c11] ++ [c12], rfl, r7, ⟨[c8], [c9, c10] ++ [c11] ++ [c12], rfl, r8, ⟨[c9, c10], [c11] ++ [c12], rfl, r9, ⟨[c11], [c12], rfl, r10, r11⟩⟩⟩⟩⟩⟩⟩⟩⟩⟩⟩, trivial⟩
theorem opH61 : Opens Tryz.prog 61 (Cd.ty (.p (.i .i64) (.i .i64))) (fun _ => True) := by
  intro H enc w base spare held fuel cs d pl h hw
  obtain ⟨hlen, hf⟩ := struct_fields Tryz.underlying61 h hw
  rw [show Tryz.prog.cellsOf 61 = 2 by kernel_rfl] at hlen
  match cs, hlen with
  | [c0, c1], _ =>
    obtain ⟨n0, d0, p0, h0, w0⟩ := hf 0 _ rfl
    simp [show Tryz.prog.cellsOf 2 = 1 by kernel_rfl] at h0
    obtain ⟨x0, r0, _⟩ := (opIR Tryz.underlying2) h0 w0
    obtain ⟨n1, d1, p1, h1, w1⟩ := hf 1 _ rfl
    simp [show Tryz.prog.cellsOf 2 = 1 by kernel_rfl] at h1
    obtain ⟨x1, r1, _⟩ := (opIR Tryz.underlying2) h1 w1
    exact ⟨(x0, x1), ⟨[c0], [c1], rfl, r0, r1⟩, trivial⟩
theorem opH63 : Opens Tryz.prog 63 (Cd.ty (.p .b (.p (.p (.i .u8) (.p .s (.p .s (.p (.i .u8) (.p .b (.p (.i .i64) (.p (.i .i64) (.p (.i .i64) (.p (.i .i64) (.p (.p (.i .i64) (.i .i64)) (.p (.i .i64) (.i .i64)))))))))))) (.p (.p (.i .i64) (.i .i64)) (.p (.p (.i .i64) (.i .i64)) (.p (.i .u8) .s)))))) (fun _ => True) := by
  intro H enc w base spare held fuel cs d pl h hw
  obtain ⟨hlen, hf⟩ := struct_fields Tryz.underlying63 h hw
  rw [show Tryz.prog.cellsOf 63 = 20 by kernel_rfl] at hlen
  match cs, hlen with
  | [c0, c1, c2, c3, c4, c5, c6, c7, c8, c9, c10, c11, c12, c13, c14, c15, c16, c17, c18, c19], _ =>
    obtain ⟨n0, d0, p0, h0, w0⟩ := hf 0 _ rfl
    simp [show Tryz.prog.cellsOf 4 = 1 by kernel_rfl] at h0
    obtain ⟨x0, r0, _⟩ := (opBR Tryz.underlying4) h0 w0
    obtain ⟨n1, d1, p1, h1, w1⟩ := hf 1 _ rfl
    simp [show Tryz.prog.cellsOf 59 = 13 by kernel_rfl] at h1
    obtain ⟨x1, r1, _⟩ := opH59 h1 w1
    obtain ⟨n2, d2, p2, h2, w2⟩ := hf 2 _ rfl
    simp [show Tryz.prog.cellsOf 61 = 2 by kernel_rfl] at h2
    obtain ⟨x2, r2, _⟩ := opH61 h2 w2
    obtain ⟨n3, d3, p3, h3, w3⟩ := hf 3 _ rfl
    simp [show Tryz.prog.cellsOf 61 = 2 by kernel_rfl] at h3
    obtain ⟨x3, r3, _⟩ := opH61 h3 w3
    obtain ⟨n4, d4, p4, h4, w4⟩ := hf 4 _ rfl
    simp [show Tryz.prog.cellsOf 56 = 1 by kernel_rfl] at h4
    obtain ⟨x4, r4, _⟩ := (opIR Tryz.underlying56) h4 w4
    obtain ⟨n5, d5, p5, h5, w5⟩ := hf 5 _ rfl
    simp [show Tryz.prog.cellsOf 9 = 1 by kernel_rfl] at h5
    obtain ⟨x5, r5, _⟩ := (opSR Tryz.underlying9) h5 w5
    exact ⟨(x0, x1, x2, x3, x4, x5), ⟨[c0], [c1, c2, c3, c4, c5, c6, c7, c8, c9, c10, c11, c12, c13] ++ [c14, c15] ++ [c16, c17] ++ [c18] ++ [c19], rfl, r0, ⟨[c1, c2, c3, c4, c5, c6, c7, c8, c9, c10, c11, c12, c13], [c14, c15] ++ [c16, c17] ++ [c18] ++ [c19], rfl, r1, ⟨[c14, c15], [c16, c17] ++ [c18] ++ [c19], rfl, r2, ⟨[c16, c17], [c18] ++ [c19], rfl, r3, ⟨[c18], [c19], rfl, r4, r5⟩⟩⟩⟩⟩, trivial⟩
theorem opH24 : Opens Tryz.prog 24 (Cd.ty (.p .s (.p .s (.p (.a (.p .b (.p (.p (.i .u8) (.p .s (.p .s (.p (.i .u8) (.p .b (.p (.i .i64) (.p (.i .i64) (.p (.i .i64) (.p (.i .i64) (.p (.p (.i .i64) (.i .i64)) (.p (.i .i64) (.i .i64)))))))))))) (.p (.p (.i .i64) (.i .i64)) (.p (.p (.i .i64) (.i .i64)) (.p (.i .u8) .s)))))) (.i .i64))))) (fun _ => True) := by
  intro H enc w base spare held fuel cs d pl h hw
  obtain ⟨hlen, hf⟩ := struct_fields Tryz.underlying24 h hw
  rw [show Tryz.prog.cellsOf 24 = 4 by kernel_rfl] at hlen
  match cs, hlen with
  | [c0, c1, c2, c3], _ =>
    obtain ⟨n0, d0, p0, h0, w0⟩ := hf 0 _ rfl
    simp [show Tryz.prog.cellsOf 9 = 1 by kernel_rfl] at h0
    obtain ⟨x0, r0, _⟩ := (opSR Tryz.underlying9) h0 w0
    obtain ⟨n1, d1, p1, h1, w1⟩ := hf 1 _ rfl
    simp [show Tryz.prog.cellsOf 9 = 1 by kernel_rfl] at h1
    obtain ⟨x1, r1, _⟩ := (opSR Tryz.underlying9) h1 w1
    obtain ⟨n2, d2, p2, h2, w2⟩ := hf 2 _ rfl
    simp [show Tryz.prog.cellsOf 22 = 1 by kernel_rfl] at h2
    obtain ⟨x2, r2, _⟩ := (opens_sized 176 (by kernel_rfl) opH63 Tryz.underlying22 (by kernel_rfl) (by kernel_rfl)) h2 w2
    obtain ⟨n3, d3, p3, h3, w3⟩ := hf 3 _ rfl
    simp [show Tryz.prog.cellsOf 3 = 1 by kernel_rfl] at h3
    obtain ⟨x3, r3, _⟩ := (opIR Tryz.underlying3) h3 w3
    exact ⟨(x0, x1, x2, x3), ⟨[c0], [c1] ++ [c2] ++ [c3], rfl, r0, ⟨[c1], [c2] ++ [c3], rfl, r1, ⟨[c2], [c3], rfl, r2, r3⟩⟩⟩, trivial⟩
theorem opH36 : Opens Tryz.prog 36 (Cd.ty (.p (.i .u8) (.p (.i .i64) (.p .s (.p .s (.p .s (.p .s (.p (.p (.i .i64) (.i .i64)) (.p (.i .i64) (.p (.i .i64) (.p (.i .i64) (.i .u8)))))))))))) (fun _ => True) := by
  intro H enc w base spare held fuel cs d pl h hw
  obtain ⟨hlen, hf⟩ := struct_fields Tryz.underlying36 h hw
  rw [show Tryz.prog.cellsOf 36 = 12 by kernel_rfl] at hlen
  match cs, hlen with
  | [c0, c1, c2, c3, c4, c5, c6, c7, c8, c9, c10, c11], _ =>
    obtain ⟨n0, d0, p0, h0, w0⟩ := hf 0 _ rfl
    simp [show Tryz.prog.cellsOf 32 = 1 by kernel_rfl] at h0
    obtain ⟨x0, r0, _⟩ := (opIR Tryz.underlying32) h0 w0
    obtain ⟨n1, d1, p1, h1, w1⟩ := hf 1 _ rfl
    simp [show Tryz.prog.cellsOf 3 = 1 by kernel_rfl] at h1
    obtain ⟨x1, r1, _⟩ := (opIR Tryz.underlying3) h1 w1
    obtain ⟨n2, d2, p2, h2, w2⟩ := hf 2 _ rfl
    simp [show Tryz.prog.cellsOf 9 = 1 by kernel_rfl] at h2
    obtain ⟨x2, r2, _⟩ := (opSR Tryz.underlying9) h2 w2
    obtain ⟨n3, d3, p3, h3, w3⟩ := hf 3 _ rfl
    simp [show Tryz.prog.cellsOf 9 = 1 by kernel_rfl] at h3
    obtain ⟨x3, r3, _⟩ := (opSR Tryz.underlying9) h3 w3
    obtain ⟨n4, d4, p4, h4, w4⟩ := hf 4 _ rfl
    simp [show Tryz.prog.cellsOf 9 = 1 by kernel_rfl] at h4
    obtain ⟨x4, r4, _⟩ := (opSR Tryz.underlying9) h4 w4
    obtain ⟨n5, d5, p5, h5, w5⟩ := hf 5 _ rfl
    simp [show Tryz.prog.cellsOf 9 = 1 by kernel_rfl] at h5
    obtain ⟨x5, r5, _⟩ := (opSR Tryz.underlying9) h5 w5
    obtain ⟨n6, d6, p6, h6, w6⟩ := hf 6 _ rfl
    simp [show Tryz.prog.cellsOf 34 = 2 by kernel_rfl] at h6
    obtain ⟨x6, r6, _⟩ := opH34 h6 w6
    obtain ⟨n7, d7, p7, h7, w7⟩ := hf 7 _ rfl
    simp [show Tryz.prog.cellsOf 2 = 1 by kernel_rfl] at h7
    obtain ⟨x7, r7, _⟩ := (opIR Tryz.underlying2) h7 w7
    obtain ⟨n8, d8, p8, h8, w8⟩ := hf 8 _ rfl
    simp [show Tryz.prog.cellsOf 2 = 1 by kernel_rfl] at h8
    obtain ⟨x8, r8, _⟩ := (opIR Tryz.underlying2) h8 w8
    obtain ⟨n9, d9, p9, h9, w9⟩ := hf 9 _ rfl
    simp [show Tryz.prog.cellsOf 2 = 1 by kernel_rfl] at h9
    obtain ⟨x9, r9, _⟩ := (opIR Tryz.underlying2) h9 w9
    obtain ⟨n10, d10, p10, h10, w10⟩ := hf 10 _ rfl
    simp [show Tryz.prog.cellsOf 5 = 1 by kernel_rfl] at h10
    obtain ⟨x10, r10, _⟩ := (opIR Tryz.underlying5) h10 w10
    exact ⟨(x0, x1, x2, x3, x4, x5, x6, x7, x8, x9, x10), ⟨[c0], [c1] ++ [c2] ++ [c3] ++ [c4] ++ [c5] ++ [c6, c7] ++ [c8] ++ [c9] ++ [c10] ++ [c11], rfl, r0, ⟨[c1], [c2] ++ [c3] ++ [c4] ++ [c5] ++ [c6, c7] ++ [c8] ++ [c9] ++ [c10] ++ [c11], rfl, r1, ⟨[c2], [c3] ++ [c4] ++ [c5] ++ [c6, c7] ++ [c8] ++ [c9] ++ [c10] ++ [c11], rfl, r2, ⟨[c3], [c4] ++ [c5] ++ [c6, c7] ++ [c8] ++ [c9] ++ [c10] ++ [c11], rfl, r3, ⟨[c4], [c5] ++ [c6, c7] ++ [c8] ++ [c9] ++ [c10] ++ [c11], rfl, r4, ⟨[c5], [c6, c7] ++ [c8] ++ [c9] ++ [c10] ++ [c11], rfl, r5, ⟨[c6, c7], [c8] ++ [c9] ++ [c10] ++ [c11], rfl, r6, ⟨[c8], [c9] ++ [c10] ++ [c11], rfl, r7, ⟨[c9], [c10] ++ [c11], rfl, r8, ⟨[c10], [c11], rfl, r9, r10⟩⟩⟩⟩⟩⟩⟩⟩⟩⟩, trivial⟩
theorem topUndo_lifted (os : Os) (started : os.Started) (H : Type) (enc : TypeId × Value → H) :
    ReturnsInHanded {} Tryz.checked os 3 .any (fun w args => (Rows.topUndoSpec.pre enc Tryz.prog Tryz.f3 [] false w args ∧ laidMetH Tryz.prog laidU w) ∧ sizedMet enc Tryz.prog Tryz.f3 (OpenSpec.ofChange Rows.topUndoSpec) false w args) (Rows.topUndoSpec.post enc Tryz.prog Tryz.f3 false true false false) := by
  refine returnsInHanded_of_change_and (C := Tryz.checked) (X := fun w _ => laidMetH Tryz.prog laidU w) (fun _ _ _ hh h => h.of_heap hh) Tryz.own started (by kernel_rfl) Tryz.func3
    (ChangeSpec.witness_shaped (enc := enc) (C := Tryz.checked) (os := os) (X := fun w _ => laidMetH Tryz.prog laidU w) false (World.doorLaid Tryz.prog 400 os) #[.agg #[.string ⟨#[]⟩, .string ⟨#[]⟩, .slice none 0 0, .int .i64 0], .slice none 0 0, .int .u8 0] 8 rfl (World.shaped_of_RefB (by kernel_rfl) (by kernel_rfl)) (by kernel_rfl) (by kernel_rfl) (by kernel_rfl) (door_met os _)) ?_
  intro W base args ds gs before hval0 hW hcnd hsz0 hL _
  have hval : ∀ (j : Nat) t v, Tryz.f3.params[j]? = some t → args[j]? = some v → Value.okWide Tryz.prog W .any base t v := hval0
  have hW' := hW
  obtain ⟨p, q, hA0, hV, rfl, hfz, hnd⟩ := hW
  have hA : DataW.TrodAll enc Tryz.prog W 0 (fun _ => true) true Tryz.f3.params.toList args.toList ds p := hA0
  have hA1 := hA
  rw [Tryz.params3] at hA hval
  obtain ⟨v0, vs0, d0, ds0, p0, q0, hargs, rfl, rfl, h0, r0⟩ := trodAll_cons hA
  obtain ⟨v1, vs1, d1, ds1, p1, q1, rfl, rfl, rfl, h1, r1⟩ := trodAll_cons r0
  obtain ⟨v2, vs2, d2, ds2, p2, q2, rfl, rfl, rfl, h2, r2⟩ := trodAll_cons r1
  obtain ⟨rfl, rfl, rfl⟩ := trodAll_nil r2
  obtain rfl : args = #[v0, v1, v2] := by cases args; simp_all
  obtain ⟨rfl, rfl⟩ := trodVars_none hV
  have hsz : ∀ m ∈ DataW.weightsEach Tryz.prog [24, 25, 5] [d0, d1, d2], m ≤ reachBytes := fun m hm => by
    have h9 : (DataW.weightsEach Tryz.prog (Tryz.f3.params.toList ++ []) ([d0, d1, d2] ++ [])).all (· ≤ reachBytes) = true := hsz0
    rw [Tryz.params3, List.append_nil, List.append_nil] at h9
    have := List.all_eq_true.1 h9 m hm
    simpa using this
  obtain ⟨u0, rfl, _⟩ := okWide_struct Tryz.underlying24 (hval 0 24 v0 rfl rfl)
  obtain ⟨f0, g0⟩ := h0
  obtain ⟨x0, z0, k0⟩ := opH24 g0 (fun m hm => hsz m (DataW.weights_mem_each (j := 0) rfl rfl m hm))
  obtain ⟨B1, n1, e1, rfl⟩ := okWide_slice Tryz.underlying25 (hval 1 25 v1 rfl rfl)
  obtain ⟨f1, g1⟩ := h1
  obtain ⟨x1, ⟨A1, c1, z1, fl1⟩, k1⟩ := (opens_sized 128 (by kernel_rfl) opH36 Tryz.underlying25 (by kernel_rfl) (by kernel_rfl)) g1 (fun m hm => hsz m (DataW.weights_mem_each (j := 1) rfl rfl m hm))
  obtain ⟨rfl, rfl, rfl⟩ : B1 = A1 ∧ n1 = x1.length ∧ e1 = c1 := by simpa [Value.cells] using z1
  obtain ⟨x2, rfl, rfl, rfl, w2⟩ := open_int Tryz.underlying5 (hval 2 5 v2 rfl rfl) h2
  have k2 := lit_wf w2
  simp only [List.append_nil] at hW' hA1
  have hrun := law_of_fok fo3 (t := (((x0.1, x0.2.1), (x0.2.2.1, x0.2.2.2)), (x1, x2))) ((undo_law z0 fl1 k2)) [.v (.agg (Cd.cv (.p .s (.p .s (.p (.a (.p .b (.p (.p (.i .u8) (.p .s (.p .s (.p (.i .u8) (.p .b (.p (.i .i64) (.p (.i .i64) (.p (.i .i64) (.p (.i .i64) (.p (.p (.i .i64) (.i .i64)) (.p (.i .i64) (.i .i64)))))))))))) (.p (.p (.i .i64) (.i .i64)) (.p (.p (.i .i64) (.i .i64)) (.p (.i .u8) .s)))))) (.i .i64)))) x0)), vC (.ro (.p (.i .u8) (.p (.i .i64) (.p .s (.p .s (.p .s (.p .s (.p (.p (.i .i64) (.i .i64)) (.p (.i .i64) (.p (.i .i64) (.p (.i .i64) (.i .u8))))))))))) x1 false), vC (.int .u8 x2)] rfl (W := W) (gi_of hL) (vs := [.agg u0, _, _]) (⟨⟨u0.toList, by simp, Cd.cv_real (.p .s (.p .s (.p (.a (.p .b (.p (.p (.i .u8) (.p .s (.p .s (.p (.i .u8) (.p .b (.p (.i .i64) (.p (.i .i64) (.p (.i .i64) (.p (.i .i64) (.p (.p (.i .i64) (.i .i64)) (.p (.i .i64) (.i .i64)))))))))))) (.p (.p (.i .i64) (.i .i64)) (.p (.p (.i .i64) (.i .i64)) (.p (.i .u8) .s)))))) (.i .i64)))) z0⟩, ⟨B1, e1, rfl, Arr.toM fl1 (.refl _)⟩, ⟨rfl, k2⟩, trivial⟩) rfl
  refine hrun.mono fun e W' ⟨he, hg⟩ => ?_
  subst he
  exact ⟨_, rfl, law_post Tryz.laidOut (by intro t ht; simp only [Tryz.params3] at ht; revert t; decide +kernel) rfl rfl Tryz.underlying4 rfl hW' hA1 hg⟩
theorem topUndo_holds : Rows.TopUndoSaid :=
  OpenClaim.holds_of_wide 3 Tryz.f3 rfl rfl rfl rfl rfl rfl rfl ⟨rfl, rfl, rfl, rfl, rfl⟩ rfl rfl rfl rfl rfl (by kernel_rfl) Tryz.func3 (by kernel_rfl)
    (of_decide_eq_true (by kernel_rfl)) (by unfold Func.isWrapper; first | (rw [if_pos (by decide +kernel)]; kernel_rfl) | (rw [if_neg (by decide +kernel)]; exact ⟨rfl, rfl⟩))
    (fun os started H enc _ => topUndo_lifted os started H enc)
theorem topUndo_card : Rows.TopUndoCardSaid :=
  Claim7.holds_tied_plain_at .later [] [.data, .data, .data, .data] true (true, "8080bd4d713597bf49bcc430dfd4c1890744d49200d653059d0fa8ed95920e2a") false
    topUndo_holds (fun _ h => by cases h) (by kernel_rfl) (fun _ h => by cases h) topUndo_row_tie rfl ⟨rfl, rfl⟩ (by kernel_rfl) rfl
    (fun f fn hf hfn => by
      obtain rfl : f = 3 := Option.some.inj ((show Tryz.prog.funcNamed Tryz.f3.name = some 3 by kernel_rfl).symm.trans hf) |>.symm
      obtain rfl : fn = Tryz.f3 := (Option.some.inj (Tryz.func3.symm.trans hfn)).symm
      exact ⟨by kernel_rfl, fun j t ht => by
        rw [Tryz.params3] at ht
        have hm : t ∈ [24, 25, 5] := by simpa using Array.mem_of_getElem? ht
        have hall : ([24, 25, 5].all fun u => !Tryz.prog.wantsStandIn u) = true := by kernel_rfl
        exact (show Tryz.prog.wantsStandIn t = false by simpa using List.all_eq_true.1 hall t hm)⟩)
    (by kernel_rfl)
end Go.Proofs.YtehljpghmbobfaaGreatDoor
