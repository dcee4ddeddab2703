/-
The third engine, part 10: a state read as data stands for what is made out of the data. Conditions: each lemma's own.
-/
import Derived.Test.YtpleflcfaecojaaGreatH9
namespace Go.Proofs.YtpleflcfaecojaaGreat
set_option linter.unusedVariables false
set_option linter.unusedSimpArgs false
open Go.RowKit
inductive StepsTo : List BV → List BV → Prop where
  | refl {l : List BV} : StepsTo l l
  | frz {l l2 : List BV} {b : Nat} {c : Cd} {et : TypeId} {xs : List c.den} (h : l[b]? = some (.row c et xs)) (k : StepsTo (l.set b (.fz c xs)) l2) : StepsTo l l2
  | nil {l l2 : List BV} {c : Cd} {et : TypeId} (k : StepsTo (l ++ [.row c et []]) l2) : StepsTo l l2
theorem StepsTo.trans {a b c : List BV} (h : StepsTo a b) (k : StepsTo b c) : StepsTo a c := by
  induction h with
  | refl => exact k
  | frz h _ ih => exact .frz h (ih k)
  | nil _ ih => exact .nil (ih k)
def Grow (a b : List BV) : Prop := ∀ (i : Nat) (bv : BV), a[i]? = some bv → b[i]? = some bv ∨ ∃ c et xs, bv = .row c et xs ∧ b[i]? = some (.fz c xs)
theorem Grow.refl {a : List BV} : Grow a a := fun i bv h => .inl h
theorem Grow.trans {a b c : List BV} (h : Grow a b) (k : Grow b c) : Grow a c := fun i bv e => by
  rcases h i bv e with e1 | ⟨d, et, xs, rfl, e1⟩
  · exact k i bv e1
  · rcases k i _ e1 with e2 | ⟨_, _, _, e2, _⟩
    · exact .inr ⟨d, et, xs, rfl, e2⟩
    · cases e2
theorem StepsTo.grow {a b : List BV} (h : StepsTo a b) : Grow a b := by
  induction h with
  | refl => exact .refl
  | @frz l l2 b c et xs h _ ih =>
    refine Grow.trans (fun i bv e => ?_) ih
    by_cases e2 : b = i
    · subst e2
      rw [h] at e; injection e with e; subst e
      exact .inr ⟨c, et, xs, rfl, by simp [List.getElem?_set, get_lt h]⟩
    · exact .inl (by rw [get_ne e2]; exact e)
  | nil _ ih => exact Grow.trans (fun i bv e => .inl (by rw [List.getElem?_append_left (get_lt e)]; exact e)) ih
theorem StepsTo.length {a b : List BV} (h : StepsTo a b) : a.length ≤ b.length := by
  induction h with
  | refl => exact Nat.le_refl _
  | frz _ _ ih => rwa [List.length_set] at ih
  | nil _ ih => rw [List.length_append] at ih; exact Nat.le_trans (Nat.le_add_right _ _) ih
theorem Grow.len {a b : List BV} (h : Grow a b) {i : Nat} {bv : BV} (e : a[i]? = some bv) : ∃ bv', b[i]? = some bv' ∧ bv'.len = bv.len ∧ bv'.isHole = bv.isHole := by
  rcases h i bv e with e1 | ⟨c, et, xs, rfl, e1⟩
  · exact ⟨_, e1, rfl, rfl⟩
  · exact ⟨_, e1, rfl, rfl⟩
section
variable {P : Program} {n : Nat} {sl : List (Nat × SV)} {bl bl2 : List BV} {g : Gh} {ρ : Env} {own : Own} {fr : Sl}
theorem St.addNone {w : World} (h : St w g own) : St w g (own ++ [none]) := h.fewer (by
  rw [show Own.ids (own ++ [none]) = Own.ids own by simp [Own.ids]]; exact h.nodup) fun k hk => by simpa using hk
theorem StepsTo.do_ {w : World} (h : StepsTo bl bl2) : ∀ {g : Gh} {ρ : Env} {own : Own}, Rl g ρ ⟨sl, bl⟩ own fr → St w g own →
    ∃ g' ρ' own', g.le g' ∧ St w g' own' ∧ Ext ρ bl ρ' bl2 ∧ Rl g' ρ' ⟨sl, bl2⟩ own' fr ∧ (∀ b, b < bl.length → ρ' b = ρ b) ∧ (∀ b, bl.length ≤ b → b < bl2.length → ρ' b = (none, 0)) := by
  induction h with
  | refl => exact fun hr hs => ⟨_, _, _, .refl _, hs, .refl, hr, fun b _ => rfl, fun b h1 h2 => absurd h2 (by omega)⟩
  | @frz bl bl2 b c et xs hb _ ih =>
    intro g ρ own hr hs
    obtain ⟨g1, own1, hg, hs1, hx, hr1⟩ := (FrzTo.step hb .refl).do_ (w := w) hr hs
    obtain ⟨g2, ρ2, own2, h1, h2, h3, h4, h5, h6⟩ := ih hr1 hs1
    rw [List.length_set] at h5 h6
    exact ⟨g2, ρ2, own2, hg.trans h1, h2, hx.trans h3, h4, h5, h6⟩
  | @nil bl bl2 c et hk ih =>
    intro g ρ own hr hs
    have hx : Ext ρ bl (setρ ρ bl.length (none, 0)) (bl ++ [.row c et []]) := fun b bv e h2 => by
      have hlt := get_lt e
      exact ⟨setρ_ne (by omega), bv, by rw [List.getElem?_append_left hlt]; exact e, h2, fun m h => h⟩
    have hr1 : Rl g (setρ ρ bl.length (none, 0)) ⟨sl, bl ++ [.row c et []]⟩ (own ++ [none]) fr := by
      refine hr.turn (.refl g) hx (by simp [hr.len]) fun i bv k h1 h2 => ?_
      have hl := hr.len
      rcases Nat.lt_or_ge i bl.length with hi | hi
      · rw [List.getElem?_append_left hi] at h1
        rw [List.getElem?_append_left (by simpa [hl] using hi)] at h2
        rw [setρ_ne (by omega)]
        exact (hr.blk i bv k h1 h2).ext (.refl g) hx
      · have hi2 := get_lt h1
        simp at hi2
        have : i = bl.length := by omega
        subst this
        simp at h1
        subst h1
        have hl : own.length = bl.length := hl
        rw [← hl] at h2
        simp at h2
        subst h2
        rw [setρ_at]
        exact Buf.nil
    obtain ⟨g2, ρ2, own2, h1, h2, h3, h4, h5, h6⟩ := ih hr1 hs.addNone
    have h7 := hk.length
    simp only [List.length_append, List.length_singleton] at h5 h6 h7
    refine ⟨g2, ρ2, own2, h1, h2, hx.trans h3, h4, fun b hb => by rw [h5 b (by omega), setρ_ne (by omega)], fun b hb1 hb2 => ?_⟩
    rcases Nat.lt_or_ge bl.length b with hb3 | hb3
    · exact h6 b (by omega) hb2
    · have : b = bl.length := by omega
      subst this
      rw [h5 _ (by omega), setρ_at]
end
inductive SimC (L : List Nat) (n0 : Nat) (σ : List (Option Nat)) (bl : List BV) : CV → CV → Prop where
  | int {k : IntKind} {x : Int} : SimC L n0 σ bl (.int k x) (.int k x)
  | bool {b : Bool} : SimC L n0 σ bl (.bool b) (.bool b)
  | str {l : List UInt8} : SimC L n0 σ bl (.str l) (.str l)
  | k {v : Value} : SimC L n0 σ bl (.k v) (.k v)
  | el {c : Cd} {x : c.den} {off : Nat} : SimC L n0 σ bl (.el c x off) (.el c x off)
  | fn {f : FuncId} : SimC L n0 σ bl (.fn f) (.fn f)
  | ro {c : Cd} {xs : List c.den} {m m' : Bool} (h : m = true → m' = true) : SimC L n0 σ bl (.ro c xs m') (.ro c xs m)
  | ptr {j b off : Nat} (h : σ[j]? = some (some b)) : SimC L n0 σ bl (.ptr b off) (.ptr j off)
  | own {j b : Nat} (h : σ[j]? = some (some b)) : SimC L n0 σ bl (.own b) (.own j)
  | nilown {j b : Nat} {bv : BV} (h : σ[j]? = some (some b)) (hb : bl[b]? = some bv) (hl : bv.len = some 0) (hn : n0 ≤ b) : SimC L n0 σ bl (.k (.slice none 0 0)) (.own j)
  | fz {b : Nat} {c : Cd} {xs : List c.den} {m : Bool} (hb : bl[b]? = some (.fz c xs)) : SimC L n0 σ bl (.own b) (.ro c xs m)
  | lend {b : Nat} {c : Cd} {et : TypeId} {xs : List c.den} (hl : b ∈ L) (hb : bl[b]? = some (.row c et xs)) : SimC L n0 σ bl (.own b) (.ro c xs false)
  | fzv {b l h : Nat} {c : Cd} {xs : List c.den} {m : Bool} (hb : bl[b]? = some (.fz c xs)) : SimC L n0 σ bl (.vw b c l h) (.ro c ((xs.drop l).take (h - l)) m)
  | lendv {b l h : Nat} {c : Cd} {et : TypeId} {xs : List c.den} (hl : b ∈ L) (hb : bl[b]? = some (.row c et xs)) : SimC L n0 σ bl (.vw b c l h) (.ro c ((xs.drop l).take (h - l)) false)
  | nilro {c : Cd} {m : Bool} : SimC L n0 σ bl (.k (.slice none 0 0)) (.ro c [] m)
  | cap {f f' c c' : CV} (h1 : SimC L n0 σ bl f f') (h2 : SimC L n0 σ bl c c') : SimC L n0 σ bl (.cap f c) (.cap f' c')
  | ifc {t : TypeId} {c c' : CV} (h : SimC L n0 σ bl c c') : SimC L n0 σ bl (.ifc t c) (.ifc t c')
def SigLe (σ τ : List (Option Nat)) : Prop := ∀ (j b : Nat), σ[j]? = some (some b) → τ[j]? = some (some b)
theorem SigLe.trans {a b c : List (Option Nat)} (h : SigLe a b) (k : SigLe b c) : SigLe a c := fun j x e => k j x (h j x e)
theorem SigLe.refl {a : List (Option Nat)} : SigLe a a := fun _ _ h => h
theorem SimC.mono {L L2 : List Nat} {n0 : Nat} {σ τ : List (Option Nat)} {bl bl2 : List BV} (h0 : ∀ b ∈ L, b ∈ L2) (h1 : SigLe σ τ) (h2 : Grow bl bl2) {x y : CV} (h : SimC L n0 σ bl x y) : SimC L2 n0 τ bl2 x y := by
  induction h with
  | int => exact .int
  | bool => exact .bool
  | str => exact .str
  | k => exact .k
  | el => exact .el
  | fn => exact .fn
  | ro h => exact .ro h
  | ptr h => exact .ptr (h1 _ _ h)
  | own h => exact .own (h1 _ _ h)
  | nilown h hb hl hn =>
    obtain ⟨bv', e1, e2, _⟩ := h2.len hb
    exact .nilown (h1 _ _ h) e1 (e2.trans hl) hn
  | fz hb =>
    rcases h2 _ _ hb with e | ⟨_, _, _, e, _⟩
    · exact .fz e
    · cases e
  | lend hl hb =>
    rcases h2 _ _ hb with e | ⟨_, _, _, e, e2⟩
    · exact .lend (h0 _ hl) e
    · injection e with e3 e4 e5
      subst e3
      have e5 := eq_of_heq e5
      subst e5
      exact .fz e2
  | fzv hb =>
    rcases h2 _ _ hb with e | ⟨_, _, _, e, _⟩
    · exact .fzv e
    · cases e
  | lendv hl hb =>
    rcases h2 _ _ hb with e | ⟨_, _, _, e, e2⟩
    · exact .lendv (h0 _ hl) e
    · injection e with e3 e4 e5
      subst e3
      have e5 := eq_of_heq e5
      subst e5
      exact .fzv e2
  | nilro => exact .nilro
  | cap _ _ ih1 ih2 => exact .cap ih1 ih2
  | ifc _ ih => exact .ifc ih
structure AsOk (ln : Bool) (n0 : Nat) (s s' : AS) : Prop where
  st : StepsTo s.bl s'.bl
  sg : SigLe s.σ s'.σ
  lt : ∀ b ∈ s.lt, b ∈ s'.lt
  fl : ∃ l, s'.fl = l ++ s.fl ∧ (l = [] → s'.bl = s.bl)
theorem AsOk.refl {ln : Bool} {n0 : Nat} {s : AS} : AsOk ln n0 s s := ⟨.refl, .refl, fun _ h => h, [], rfl, fun _ => rfl⟩
theorem AsOk.trans {ln : Bool} {n0 : Nat} {a b c : AS} (h : AsOk ln n0 a b) (k : AsOk ln n0 b c) : AsOk ln n0 a c := ⟨h.st.trans k.st, h.sg.trans k.sg, fun b hb => k.lt b (h.lt b hb), by
  obtain ⟨l, e1, e2⟩ := h.fl
  obtain ⟨m, e3, e4⟩ := k.fl
  refine ⟨m ++ l, by rw [e3, e1, List.append_assoc], fun e => ?_⟩
  have e := List.append_eq_nil_iff.1 e
  rw [e4 e.1, e2 e.2]⟩
theorem asg_ok {ln : Bool} {n0 : Nat} {s s' : AS} {j b : Nat} (h : s.asg j b = some s') : AsOk ln n0 s s' ∧ s'.ds = s.ds ∧ s'.σ[j]? = some (some b) ∧ s'.bl = s.bl := by
  unfold AS.asg at h
  split at h
  · rename_i e
    injection h with h; subst h
    have hlt := get_lt e
    refine ⟨⟨.refl, fun i x hx => ?_, fun _ h => h, [], rfl, fun _ => rfl⟩, rfl, by simp [List.getElem?_set, hlt], rfl⟩
    show (s.σ.set j (some b))[i]? = _
    by_cases hij : j = i
    · subst hij; rw [e] at hx; cases hx
    · rw [get_ne hij]; exact hx
  · rename_i b' e
    cases hb : Nat.beq b b' with
    | false => rw [hb] at h; cases h
    | true =>
      rw [hb] at h
      injection h with h; subst h
      have := Nat.eq_of_beq_eq_true hb
      subst this
      exact ⟨.refl, rfl, e, rfl⟩
  · cases h
theorem same_self : ∀ (c : Cd), c.same c = some ⟨rfl⟩
  | .i k => by cases k <;> rfl
  | .y => rfl
  | .b => rfl
  | .s => rfl
  | .a c => by simp [Cd.same, same_self c]
  | .p c d => by simp [Cd.same, same_self c, same_self d]
abbrev AbsR (ln : Bool) (n0 : Nat) (sh : Sh) (cv : CV) (s s' : AS) : Prop := AsOk ln n0 s s' ∧ ∃ new cv', s'.ds = s.ds ++ new ∧ (∀ r, conC id sh (new ++ r) = some (cv', r)) ∧ SimC s'.lt n0 s'.σ s'.bl cv cv'
theorem put_ok {ln : Bool} {n0 : Nat} {s : AS} {d : DV} : AsOk ln n0 s (s.put d) := ⟨.refl, .refl, fun _ h => h, [], rfl, fun _ => rfl⟩
theorem condS {α : Type} {b : Bool} {x : Option α} {y : α} (h : cond b x none = some y) : b = true ∧ x = some y := by
  cases b
  · cases h
  · exact ⟨rfl, h⟩
theorem rowAt_ok {ln m : Bool} {n0 : Nat} {c : Cd} {b : Nat} {s s' : AS} (h : s.rowAt ln m c b = some s') : AbsR ln n0 (.ro c m) (.own b) s s' := by
  unfold AS.rowAt at h
  split at h
  · rename_i d et xs hb
    split at h
    · rename_i hk _; obtain ⟨hk⟩ := hk; subst hk
      split at h
      · injection h with h; subst h
        refine ⟨⟨.frz hb .refl, .refl, fun _ h => h, [b], rfl, fun e => by cases e⟩, [⟨.a d, xs⟩], .ro d xs true, rfl, fun r => by simp [conC, same_self], .fz (by simp [List.getElem?_set, get_lt hb])⟩
      · injection h with h; subst h
        exact ⟨⟨.refl, .refl, fun _ h => List.mem_cons_of_mem _ h, [], rfl, fun _ => rfl⟩, [⟨.a d, xs⟩], .ro d xs false, rfl, fun r => by simp [conC, same_self], .lend (List.mem_cons_self ..) hb⟩
      · cases h
    · cases h
  · rename_i d xs hb
    split at h
    · rename_i hk _; obtain ⟨hk⟩ := hk; subst hk
      injection h with h; subst h
      exact ⟨put_ok, [⟨.a d, xs⟩], .ro d xs m, rfl, fun r => by simp [conC, same_self], .fz hb⟩
    · cases h
  · cases h
theorem rowV_ok {ln m : Bool} {n0 : Nat} {c : Cd} {b l r : Nat} {s s' : AS} (h : s.rowV ln m c b l r = some s') : AbsR ln n0 (.ro c m) (.vw b c l r) s s' := by
  unfold AS.rowV at h
  split at h
  · rename_i d et xs hb
    split at h
    · rename_i hk _; obtain ⟨hk⟩ := hk; subst hk
      split at h
      · injection h with h; subst h
        refine ⟨⟨.frz hb .refl, .refl, fun _ h => h, [b], rfl, fun e => by cases e⟩, [⟨.a d, (xs.drop l).take (r - l)⟩], .ro d ((xs.drop l).take (r - l)) true, rfl, fun r => by simp [conC, same_self], .fzv (by simp [List.getElem?_set, get_lt hb])⟩
      · injection h with h; subst h
        exact ⟨⟨.refl, .refl, fun _ h => List.mem_cons_of_mem _ h, [], rfl, fun _ => rfl⟩, [⟨.a d, (xs.drop l).take (r - l)⟩], .ro d ((xs.drop l).take (r - l)) false, rfl, fun r => by simp [conC, same_self], .lendv (List.mem_cons_self ..) hb⟩
      · cases h
    · cases h
  · rename_i d xs hb
    split at h
    · rename_i hk _; obtain ⟨hk⟩ := hk; subst hk
      injection h with h; subst h
      exact ⟨put_ok, [⟨.a d, (xs.drop l).take (r - l)⟩], .ro d ((xs.drop l).take (r - l)) m, rfl, fun r => by simp [conC, same_self], .fzv hb⟩
    · cases h
  · cases h
theorem absC_ok {ln : Bool} {bs : List BSh} {n0 : Nat} : ∀ {sh : Sh} {cv : CV} {s s' : AS}, absC ln bs sh cv s = some s' → n0 ≤ s.bl.length → AbsR ln n0 sh cv s s' := by
  intro sh
  induction sh with
  | i k =>
    intro cv s s' h hn
    cases cv <;> try (cases h; done)
    rename_i j x
    unfold absC at h
    split at h
    · rename_i hk _; obtain ⟨hk⟩ := hk; subst hk
      injection h with h; subst h
      exact ⟨put_ok, [⟨.i j, x⟩], .int j x, rfl, fun r => by simp [conC, same_self], .int⟩
    · cases h
  | b =>
    intro cv s s' h hn
    cases cv <;> try (cases h; done)
    rename_i x
    injection h with h; subst h
    exact ⟨put_ok, [⟨.b, x⟩], .bool x, rfl, fun r => by simp [conC, same_self], .bool⟩
  | s =>
    intro cv s s' h hn
    cases cv <;> try (cases h; done)
    rename_i x
    injection h with h; subst h
    exact ⟨put_ok, [⟨.s, x⟩], .str x, rfl, fun r => by simp [conC, same_self], .str⟩
  | cst v =>
    intro cv s s' h hn
    cases cv <;> try (cases h; done)
    obtain ⟨h1, h2⟩ := condS h
    injection h2 with h2; subst h2
    have := sameCv_eq h1
    subst this
    exact ⟨.refl, [], _, by simp, fun r => rfl, .k⟩
  | ic k z =>
    intro cv s s' h hn
    cases cv <;> try (cases h; done)
    rename_i j x
    unfold absC at h
    split at h
    · rename_i hk _; obtain ⟨hk⟩ := hk; subst hk
      obtain ⟨h1, h2⟩ := condS h
      have := eqZ_eq h1
      subst this
      injection h2 with h2; subst h2
      exact ⟨.refl, [], _, by simp, fun r => rfl, .int⟩
    · cases h
  | ptr j off =>
    intro cv s s' h hn
    cases cv <;> try (cases h; done)
    obtain ⟨h1, h2⟩ := condS h
    have h1 := Nat.eq_of_beq_eq_true h1
    subst h1
    obtain ⟨h3, h4, h5, _⟩ := asg_ok (ln := ln) (n0 := n0) h2
    exact ⟨h3, [], _, by simp [h4], fun r => rfl, .ptr h5⟩
  | own j =>
    intro cv s s' h hn
    cases cv <;> try (cases h; done)
    · rename_i u
      unfold absC at h
      split at h
      · rename_i c et h1 h2 h3
        injection h with h; subst h
        have := sameCv_eq h1
        subst this
        have hlt := get_lt h3
        refine ⟨⟨.nil .refl, fun i x hx => ?_, fun _ h => h, [s.bl.length], rfl, fun e => by cases e⟩, [], _, by simp, fun r => rfl, .nilown (b := s.bl.length) (by simp [List.getElem?_set, hlt]) (by simp; rfl) rfl hn⟩
        show (s.σ.set j (some s.bl.length))[i]? = _
        by_cases hij : j = i
        · subst hij; rw [h3] at hx; cases hx
        · rw [get_ne hij]; exact hx
      · cases h
    · obtain ⟨h3, h4, h5, _⟩ := asg_ok (ln := ln) (n0 := n0) h
      exact ⟨h3, [], _, by simp [h4], fun r => rfl, .own h5⟩
  | ro c m =>
    intro cv s s' h hn
    cases cv <;> try (cases h; done)
    · obtain ⟨h1, h2⟩ := condS h
      have := sameCv_eq h1
      subst this
      injection h2 with h2; subst h2
      exact ⟨put_ok, [⟨.a c, ([] : List c.den)⟩], .ro c [] m, rfl, fun r => by simp [conC, same_self], .nilro⟩
    · exact rowAt_ok h
    · rename_i d xs m'
      unfold absC at h
      split at h
      · rename_i hk _ hm; obtain ⟨hk⟩ := hk; subst hk
        injection h with h; subst h
        refine ⟨put_ok, [⟨.a d, xs⟩], .ro d xs m, rfl, fun r => by simp [conC, same_self], .ro fun e => by subst e; cases m' <;> simp_all⟩
      · cases h
    · rename_i b d l r
      unfold absC at h
      split at h
      · rename_i hk _; obtain ⟨hk⟩ := hk; subst hk
        exact rowV_ok h
      · cases h
  | el c off =>
    intro cv s s' h hn
    cases cv <;> try (cases h; done)
    rename_i d x o
    unfold absC at h
    split at h
    · rename_i hk _ ho; obtain ⟨hk⟩ := hk; subst hk
      have ho := Nat.eq_of_beq_eq_true ho
      subst ho
      injection h with h; subst h
      exact ⟨put_ok, [⟨d, x⟩], .el d x off, rfl, fun r => by simp [conC, same_self], .el⟩
    · cases h
  | fn f =>
    intro cv s s' h hn
    cases cv <;> try (cases h; done)
    obtain ⟨h1, h2⟩ := condS h
    have h1 := Nat.eq_of_beq_eq_true h1
    subst h1
    injection h2 with h2; subst h2
    exact ⟨.refl, [], _, by simp, fun r => rfl, .fn⟩
  | cap f c ih1 ih2 =>
    intro cv s s' h hn
    cases cv <;> try (cases h; done)
    rename_i g d
    unfold absC at h
    split at h
    · rename_i s1 h1
      obtain ⟨a1, n1, c1, d1, e1, s1'⟩ := ih1 h1 hn
      obtain ⟨a2, n2, c2, d2, e2, s2'⟩ := ih2 h (Nat.le_trans hn a1.st.length)
      refine ⟨a1.trans a2, n1 ++ n2, .cap c1 c2, by rw [d2, d1, List.append_assoc], fun r => ?_, .cap (s1'.mono a2.lt a2.sg a2.st.grow) s2'⟩
      rw [List.append_assoc]
      simp only [conC, e1, e2]
    · cases h
  | ifc t c ih =>
    intro cv s s' h hn
    cases cv <;> try (cases h; done)
    rename_i u d
    obtain ⟨h1, h2⟩ := condS h
    have h1 := Nat.eq_of_beq_eq_true h1
    subst h1
    obtain ⟨a1, n1, c1, d1, e1, s1'⟩ := ih h2 hn
    exact ⟨a1, n1, .ifc t c1, d1, fun r => by simp only [conC, e1], .ifc s1'⟩
def ReadsOk {α β : Type} (ln : Bool) (n0 : Nat) (con : α → Con β) (Sim : List Nat → List (Option Nat) → List BV → β → β → Prop) (x : α) (y : β) (s s' : AS) : Prop :=
  AsOk ln n0 s s' ∧ ∃ new y', s'.ds = s.ds ++ new ∧ (∀ r, con x (new ++ r) = some (y', r)) ∧ Sim s'.lt s'.σ s'.bl y y'
def MonoS {β : Type} (Sim : List Nat → List (Option Nat) → List BV → β → β → Prop) : Prop := ∀ L L2 σ τ bl bl2 y y', (∀ b ∈ L, b ∈ L2) → SigLe σ τ → Grow bl bl2 → Sim L σ bl y y' → Sim L2 τ bl2 y y'
theorem absL_ok {α β : Type} {ln : Bool} {n0 : Nat} {one : α → β → AS → Option AS} {con : α → Con β} {Sim : List Nat → List (Option Nat) → List BV → β → β → Prop} (hm : MonoS Sim)
    (h1 : ∀ x y s s', one x y s = some s' → n0 ≤ s.bl.length → ReadsOk ln n0 con Sim x y s s') : ∀ {l : List α} {m : List β} {s s' : AS}, absL one l m s = some s' → n0 ≤ s.bl.length →
    ReadsOk ln n0 (conL con) (fun L σ bl => All2 (Sim L σ bl)) l m s s'
  | [], [], s, s', h, hn => by
    injection h with h; subst h
    exact ⟨.refl, [], [], by simp, fun r => rfl, trivial⟩
  | x :: l, y :: m, s, s', h, hn => by
    unfold absL at h
    split at h
    · rename_i s1 e
      obtain ⟨a1, n1, y1, d1, c1, q1⟩ := h1 x y s s1 e hn
      obtain ⟨a2, n2, y2, d2, c2, q2⟩ := absL_ok hm h1 h (Nat.le_trans hn a1.st.length)
      refine ⟨a1.trans a2, n1 ++ n2, y1 :: y2, by rw [d2, d1, List.append_assoc], fun r => ?_, hm _ _ _ _ _ _ _ _ a2.lt a2.sg a2.st.grow q1, q2⟩
      rw [List.append_assoc]
      simp only [conL, c1, c2]
    · cases h
  | [], _ :: _, _, _, h, _ => by cases h
  | _ :: _, [], _, _, h, _ => by cases h
def Sim1 (L : List Nat) (n0 : Nat) (σ : List (Option Nat)) (bl : List BV) : V1 → V1 → Prop
  | .c x, .c y => SimC L n0 σ bl x y
  | .agg l, .agg m => All2 (SimC L n0 σ bl) l m
  | _, _ => False
def SimS (L : List Nat) (n0 : Nat) (σ : List (Option Nat)) (bl : List BV) : SV → SV → Prop
  | .v x, .v y => Sim1 L n0 σ bl x y
  | .tup l, .tup m => All2 (Sim1 L n0 σ bl) l m
  | _, _ => False
theorem simC_mono {n0 : Nat} : MonoS (fun L => SimC L n0) := fun _ _ _ _ _ _ _ _ h0 h1 h2 h => h.mono h0 h1 h2
theorem sim1_mono {n0 : Nat} : MonoS (fun L => Sim1 L n0) := fun _ _ _ _ _ _ y y' h0 h1 h2 h => by
  cases y <;> cases y' <;> first | exact h.elim | skip
  · exact SimC.mono h0 h1 h2 h
  · exact All2.mono (fun _ _ h => SimC.mono h0 h1 h2 h) h
theorem simS_mono {n0 : Nat} : MonoS (fun L => SimS L n0) := fun _ _ _ _ _ _ y y' h0 h1 h2 h => by
  cases y <;> cases y' <;> first | exact h.elim | skip
  · exact sim1_mono _ _ _ _ _ _ _ _ h0 h1 h2 h
  · exact All2.mono (fun _ _ h => sim1_mono _ _ _ _ _ _ _ _ h0 h1 h2 h) h
theorem abs1_ok {ln : Bool} {bs : List BSh} {n0 : Nat} (x : Sh1) (y : V1) (s s' : AS) (h : abs1 ln bs x y s = some s') (hn : n0 ≤ s.bl.length) : ReadsOk ln n0 (con1 id) (fun L => Sim1 L n0) x y s s' := by
  cases x <;> cases y <;> first | (cases h; done) | skip
  · obtain ⟨a, nw, y', d, c, q⟩ := absC_ok h hn
    exact ⟨a, nw, .c y', d, fun r => by simp only [con1, c], q⟩
  · obtain ⟨a, nw, y', d, c, q⟩ := absL_ok simC_mono (fun x y s s' h hn => absC_ok h hn) h hn
    exact ⟨a, nw, .agg y', d, fun r => by simp only [con1, c], q⟩
theorem absS_ok {ln : Bool} {bs : List BSh} {n0 : Nat} (x : SSh) (y : SV) (s s' : AS) (h : absS ln bs x y s = some s') (hn : n0 ≤ s.bl.length) : ReadsOk ln n0 (conS id) (fun L => SimS L n0) x y s s' := by
  cases x <;> cases y <;> first | (cases h; done) | skip
  · obtain ⟨a, nw, y', d, c, q⟩ := abs1_ok _ _ _ _ h hn
    exact ⟨a, nw, .v y', d, fun r => by simp only [conS, c], q⟩
  · obtain ⟨a, nw, y', d, c, q⟩ := absL_ok sim1_mono (abs1_ok (bs := bs)) h hn
    exact ⟨a, nw, .tup y', d, fun r => by simp only [conS, c], q⟩
def SimSl (L : List Nat) (n0 : Nat) (sl : List (Nat × SV)) (σ : List (Option Nat)) (bl : List BV) (p : Nat × SV) : Prop := ∃ y, getH sl p.1 = some y ∧ SimS L n0 σ bl y p.2
theorem absSl_ok {ln : Bool} {bs : List BSh} {n0 : Nat} {sl : List (Nat × SV)} : ∀ {l : List (Nat × SSh)} {s s' : AS}, absSl ln bs sl l s = some s' → n0 ≤ s.bl.length →
    AsOk ln n0 s s' ∧ ∃ new m, s'.ds = s.ds ++ new ∧ (∀ r, conL (conSl id) l (new ++ r) = some (m, r)) ∧ ∀ p ∈ m, SimSl s'.lt n0 sl s'.σ s'.bl p
  | [], s, s', h, hn => by
    injection h with h; subst h
    exact ⟨.refl, [], [], by simp, fun r => rfl, fun p hp => by cases hp⟩
  | (t, x) :: l, s, s', h, hn => by
    unfold absSl at h
    split at h
    · rename_i y ey
      split at h
      · rename_i s1 e
        obtain ⟨a1, n1, y1, d1, c1, q1⟩ := absS_ok x y s s1 e hn
        obtain ⟨a2, n2, m, d2, c2, q2⟩ := absSl_ok h (Nat.le_trans hn a1.st.length)
        refine ⟨a1.trans a2, n1 ++ n2, (t, y1) :: m, by rw [d2, d1, List.append_assoc], fun r => ?_, fun p hp => ?_⟩
        · rw [List.append_assoc]
          simp only [conL, conSl, c1, c2]
        · rcases List.mem_cons.1 hp with rfl | hp
          · exact ⟨y, ey, simS_mono _ _ _ _ _ _ _ _ a2.lt a2.sg a2.st.grow q1⟩
          · exact q2 p hp
      · cases h
    · cases h
inductive SimB (L : List Nat) (n0 : Nat) (σ : List (Option Nat)) (bl : List BV) : Option Nat → BV → Prop where
  | no {x : Option Nat} : SimB L n0 σ bl x .no
  | cells {i : Nat} {t : TypeId} {l m : List CV} (h : bl[i]? = some (.cells t l)) (hs : All2 (SimC L n0 σ bl) l m) : SimB L n0 σ bl (some i) (.cells t m)
  | row {i : Nat} {c : Cd} {et : TypeId} {xs : List c.den} (h : ∃ bv, bl[i]? = some bv ∧ (bv = .row c et xs ∨ bv = .fz c xs)) : SimB L n0 σ bl (some i) (.row c et xs)
  | lent {i : Nat} {l m : List CV} (h : bl[i]? = some (.lent l)) (hs : All2 (SimC L n0 σ bl) l m) : SimB L n0 σ bl (some i) (.lent m)
  | lend {i : Nat} {t : TypeId} {l m : List CV} (hl : i ∈ L) (h : bl[i]? = some (.cells t l)) (hs : All2 (SimC L n0 σ bl) l m) : SimB L n0 σ bl (some i) (.lent m)
theorem SimB.mono {L L2 : List Nat} {n0 : Nat} {σ τ : List (Option Nat)} {bl bl2 : List BV} (h0 : ∀ b ∈ L, b ∈ L2) (h1 : SigLe σ τ) (h2 : Grow bl bl2) {x : Option Nat} {y : BV} (h : SimB L n0 σ bl x y) : SimB L2 n0 τ bl2 x y := by
  have hc : ∀ {i : Nat} {t : TypeId} {l : List CV}, bl[i]? = some (.cells t l) → bl2[i]? = some (.cells t l) := fun e => by
    rcases h2 _ _ e with e | ⟨_, _, _, e, _⟩
    · exact e
    · cases e
  cases h with
  | no => exact .no
  | cells h hs => exact .cells (hc h) (hs.mono fun _ _ h => h.mono h0 h1 h2)
  | row h =>
    obtain ⟨bv, e, h⟩ := h
    rcases h2 _ _ e with e2 | ⟨c, et, xs, e2, e3⟩
    · exact .row ⟨bv, e2, h⟩
    · subst e2
      rcases h with h | h
      · injection h with h3 h4 h5
        subst h3; subst h4
        have h5 := eq_of_heq h5
        subst h5
        exact .row ⟨_, e3, .inr rfl⟩
      · cases h
  | lent h hs =>
    rcases h2 _ _ h with e | ⟨_, _, _, e, _⟩
    · exact .lent e (hs.mono fun _ _ h => h.mono h0 h1 h2)
    · cases e
  | lend hl h hs => exact .lend (h0 _ hl) (hc h) (hs.mono fun _ _ h => h.mono h0 h1 h2)
theorem absB_ok {ln : Bool} {bs : List BSh} {n0 : Nat} {b : BSh} {id_ : Option Nat} {s s' : AS} (h : absB ln bs b id_ s = some s') (hn : n0 ≤ s.bl.length) :
    AsOk ln n0 s s' ∧ ∃ new y', s'.ds = s.ds ++ new ∧ (∀ r, conB id b (new ++ r) = some (y', r)) ∧ SimB s'.lt n0 s'.σ s'.bl id_ y' := by
  unfold absB at h
  split at h
  · injection h with h; subst h
    exact ⟨.refl, [], _, by simp, fun r => rfl, .no⟩
  · rename_i t l i
    split at h
    · rename_i t' m hb
      obtain ⟨ht, h2⟩ := condS h
      clear h
      have ht := Nat.eq_of_beq_eq_true ht
      subst ht
      obtain ⟨a, nw, y', d, c, q⟩ := absL_ok (con := conC id) simC_mono (fun x y s s' h hn => absC_ok h hn) h2 hn
      have hb' : s'.bl[i]? = some (.cells t m) := by
        rcases a.st.grow _ _ hb with e | ⟨_, _, _, e, _⟩
        · exact e
        · cases e
      exact ⟨a, nw, .cells t y', d, fun r => by simp only [conB, c], .cells hb' q⟩
    · cases h
  · rename_i c et i
    split at h
    · rename_i d et' xs hb
      split at h
      · rename_i hk _ he; obtain ⟨hk⟩ := hk; subst hk
        have he := Nat.eq_of_beq_eq_true he
        subst he
        injection h with h; subst h
        exact ⟨put_ok, [⟨.a d, xs⟩], .row d et xs, rfl, fun r => by simp [conB, same_self], .row ⟨_, hb, .inl rfl⟩⟩
      · cases h
    · cases h
  · rename_i l i
    split at h
    · rename_i m hb
      obtain ⟨a, nw, y', d, c, q⟩ := absL_ok simC_mono (fun x y s s' h hn => absC_ok h hn) h hn
      have hb' : s'.bl[i]? = some (.lent m) := by
        rcases a.st.grow _ _ hb with e | ⟨_, _, _, e, _⟩
        · exact e
        · cases e
      exact ⟨a, nw, .lent y', d, fun r => by simp only [conB, c], .lent hb' q⟩
    · rename_i t' m hb
      obtain ⟨hl, h⟩ := condS h
      obtain ⟨a, nw, y', d, c, q⟩ := absL_ok simC_mono (fun x y s s' h hn => absC_ok h hn) h hn
      have hb' : s'.bl[i]? = some (.cells t' m) := by
        rcases a.st.grow _ _ hb with e | ⟨_, _, _, e, _⟩
        · exact e
        · cases e
      exact ⟨⟨a.st, a.sg, fun b hb => a.lt b (List.mem_cons_of_mem _ hb), a.fl⟩, nw, .lent y', d, fun r => by simp only [conB, c], .lend (a.lt i (List.mem_cons_self ..)) hb' q⟩
    · cases h
  · cases h
def sigAt (σ : List (Option Nat)) (j : Nat) : Option Nat := match σ[j]? with | some x => x | none => none
theorem sigAt_le {σ τ : List (Option Nat)} (h : SigLe σ τ) {j b : Nat} (e : sigAt σ j = some b) : sigAt τ j = some b := by
  unfold sigAt at e ⊢
  split at e
  · rename_i x hx
    subst e
    rw [h j b hx]
  · cases e
def SimBs (L : List Nat) (n0 : Nat) (σ : List (Option Nat)) (bl : List BV) : Nat → List BV → Prop
  | _, [] => True
  | j, y :: l => (y = .no ∨ ∃ i, sigAt σ j = some i ∧ SimB L n0 σ bl (some i) y) ∧ SimBs L n0 σ bl (j + 1) l
theorem SimBs.mono {L L2 : List Nat} {n0 : Nat} {σ τ : List (Option Nat)} {bl bl2 : List BV} (h0 : ∀ b ∈ L, b ∈ L2) (h1 : SigLe σ τ) (h2 : Grow bl bl2) : ∀ {l : List BV} {j : Nat}, SimBs L n0 σ bl j l → SimBs L2 n0 τ bl2 j l
  | [], _, h => trivial
  | y :: l, j, h => ⟨h.1.imp id fun ⟨i, e, q⟩ => ⟨i, sigAt_le h1 e, q.mono h0 h1 h2⟩, h.2.mono h0 h1 h2⟩
theorem absBs_ok {ln : Bool} {bs : List BSh} {n0 : Nat} : ∀ {l : List BSh} {j : Nat} {s s' : AS}, absBs ln bs j l s = some s' → n0 ≤ s.bl.length →
    AsOk ln n0 s s' ∧ ∃ new m, s'.ds = s.ds ++ new ∧ (∀ r, conL (conB id) l (new ++ r) = some (m, r)) ∧ SimBs s'.lt n0 s'.σ s'.bl j m
  | [], j, s, s', h, hn => by
    injection h with h; subst h
    exact ⟨.refl, [], [], by simp, fun r => rfl, trivial⟩
  | b :: l, j, s, s', h, hn => by
    unfold absBs at h
    split at h
    · rename_i s1 e
      have e : absB ln bs b (sigAt s.σ j) s = some s1 := e
      obtain ⟨a1, n1, y1, d1, c1, q1⟩ := absB_ok e hn
      obtain ⟨a2, n2, m, d2, c2, q2⟩ := absBs_ok h (Nat.le_trans hn a1.st.length)
      refine ⟨a1.trans a2, n1 ++ n2, y1 :: m, by rw [d2, d1, List.append_assoc], fun r => ?_, ?_, q2⟩
      · rw [List.append_assoc]
        simp only [conL, c1, c2]
      · have hsg : ∀ i, sigAt s.σ j = some i → sigAt s'.σ j = some i := fun i hi => sigAt_le (a1.sg.trans a2.sg) hi
        have q1' := q1.mono a2.lt a2.sg a2.st.grow
        generalize sigAt s.σ j = x at q1' hsg
        cases x with
        | none => cases q1' with | no => exact .inl rfl
        | some i => exact .inr ⟨i, hsg i rfl, q1'⟩
    · cases h
theorem absSt_ok {ln : Bool} {sc : Sch} {σ0 : List (Option Nat)} {st : HSt} {s : AS} (h : absSt ln sc σ0 st = some s) : ∃ st', conSt id sc s.ds = some st' ∧ StepsTo st.bl s.bl ∧ SigLe σ0 s.σ ∧
    (∀ p ∈ st'.sl, SimSl s.lt st.bl.length st.sl s.σ s.bl p) ∧ SimBs s.lt st.bl.length s.σ s.bl 0 st'.bl := by
  unfold absSt at h
  split at h
  · rename_i s1 e
    obtain ⟨a1, n1, m1, d1, c1, q1⟩ := absSl_ok e (Nat.le_refl _)
    obtain ⟨a2, n2, m2, d2, c2, q2⟩ := absBs_ok h a1.st.length
    refine ⟨⟨m1, m2⟩, ?_, a1.st.trans a2.st, a1.sg.trans a2.sg, fun p hp => ?_, q2⟩
    · unfold conSt
      rw [d2, d1, List.nil_append, c1]
      have := c2 []
      rw [List.append_nil] at this
      simp only [this]
    · obtain ⟨y, e1, e2⟩ := q1 p hp
      exact ⟨y, e1, simS_mono _ _ _ _ _ _ _ _ a2.lt a2.sg a2.st.grow e2⟩
  · cases h
theorem absSt_same {ln : Bool} {sc : Sch} {σ0 : List (Option Nat)} {st : HSt} {s : AS} (h : absSt ln sc σ0 st = some s) (hf : s.fl = []) : s.bl = st.bl := by
  unfold absSt at h
  split at h
  · rename_i s1 e
    obtain ⟨a1, _⟩ := absSl_ok e (Nat.le_refl _)
    obtain ⟨a2, _⟩ := absBs_ok h a1.st.length
    obtain ⟨l, e1, e2⟩ := (a1.trans a2).fl
    have e1 : s.fl = l ++ [] := e1
    rw [hf, List.append_nil] at e1
    exact e2 e1.symm
  · cases h
end Go.Proofs.YtpleflcfaecojaaGreat
