/-
The third engine, part 12d: a region that draws its order. Its operations are told in the order of their numbers; those that nothing orders may not touch what another of them changes. Conditions: each lemma's own.
-/
import Derived.Test.YtpleflcfaecojaaGreatH12
namespace Go.Proofs.YtpleflcfaecojaaGreat
set_option linter.unusedVariables false
set_option linter.unusedSimpArgs false
open Go.RowKit
def hasN (m b : Nat) : Bool := Nat.testBit m b
def bitN (b : Nat) : Nat := Nat.shiftLeft 1 b
def uniN (x y : Nat) : Nat := Nat.lor x y
def sepN (x y : Nat) : Bool := Nat.beq (Nat.land x y) 0
theorem hasN_bit (b : Nat) : hasN (bitN b) b = true := by
  show Nat.testBit (1 <<< b) b = true
  simp
theorem hasN_bit_eq {b j : Nat} (h : hasN (bitN b) j = true) : j = b := by
  have h : Nat.testBit (1 <<< b) j = true := h
  rw [Nat.testBit_shiftLeft] at h
  simp only [Bool.and_eq_true, decide_eq_true_eq] at h
  obtain ⟨h1, h2⟩ := h
  cases e : j - b with
  | zero => omega
  | succ k => rw [e] at h2; simp [Nat.testBit, Nat.shiftRight_eq_div_pow] at h2; rw [Nat.div_eq_of_lt (Nat.one_lt_two_pow (by omega))] at h2; cases h2
theorem hasN_uni (x y b : Nat) : hasN (uniN x y) b = (hasN x b || hasN y b) := Nat.testBit_or x y b
theorem sepN_spec {x y b : Nat} (h : sepN x y = true) (h1 : hasN x b = true) : hasN y b = false := by
  have h0 : x &&& y = 0 := Nat.eq_of_beq_eq_true h
  have h2 := Nat.testBit_and x y b
  rw [h0, Nat.zero_testBit] at h2
  have h1 : x.testBit b = true := h1
  rw [h1, Bool.true_and] at h2
  exact h2.symm
def bitsOf : List Nat → Nat
  | [] => 0
  | b :: l => uniN (bitN b) (bitsOf l)
theorem hasN_bits {l : List Nat} {b : Nat} (h : b ∈ l) : hasN (bitsOf l) b = true := by
  induction l with
  | nil => cases h
  | cons c l ih =>
    show hasN (uniN _ _) b = true
    rw [hasN_uni]
    rcases List.mem_cons.1 h with rfl | h
    · rw [hasN_bit]; rfl
    · rw [ih h]; simp
def restr (sl : List (Nat × SV)) : List Nat → List (Nat × SV)
  | [] => []
  | t :: ts => match getH sl t with | some v => (t, v) :: restr sl ts | none => restr sl ts
theorem restr_get {sl : List (Nat × SV)} {t : Nat} {sv : SV} : ∀ {ts : List Nat}, getH (restr sl ts) t = some sv → getH sl t = some sv
  | [], h => by cases h
  | u :: ts, h => by
    unfold restr at h
    split at h
    · rename_i v e
      have h : cond (Nat.beq u t) (some v) (getH (restr sl ts) t) = some sv := h
      cases hb : Nat.beq u t with
      | true =>
        rw [hb] at h
        have := Nat.eq_of_beq_eq_true hb
        subst this
        rw [e]; exact h
      | false => rw [hb] at h; exact restr_get h
    · exact restr_get h
theorem restr_congr {sl sl' : List (Nat × SV)} : ∀ {ts : List Nat}, (∀ t ∈ ts, getH sl t = getH sl' t) → restr sl ts = restr sl' ts
  | [], h => rfl
  | u :: ts, h => by
    unfold restr
    rw [h u (List.mem_cons_self ..), restr_congr fun t ht => h t (List.mem_cons_of_mem _ ht)]
theorem Rl.sub {g : Gh} {ρ : Env} {own : Own} {fr : Sl} {sl sl' : List (Nat × SV)} {bl : List BV} (h : Rl g ρ ⟨sl, bl⟩ own fr) (hi : ∀ t sv, getH sl' t = some sv → getH sl t = some sv) : Rl g ρ ⟨sl', bl⟩ own fr :=
  ⟨h.len, h.blk, fun t sv e => h.slot t sv (hi t sv e), h.gi⟩
theorem EffH.sub {P : Program} {n : Nat} {op : Op} {ty : TypeId} {sl sl' : List (Nat × SV)} {bl bl' : List BV} {v : SV} (h : EffH P n op ty sl' bl bl' v) (hi : ∀ t sv, getH sl' t = some sv → getH sl t = some sv) : EffH P n op ty sl bl bl' v :=
  fun o a w Q K g ρ own fr h1 h2 hr hf hs hk => h o a w Q K g ρ own fr h1 h2 (hr.sub hi) hf hs fun v g' ρ' own' w' hg hx hs' hr' hv => hk v g' ρ' own' w' hg hx hs' ⟨hr'.len, hr'.blk, fun t sv e => by
    obtain ⟨u, h3, h4⟩ := hr.slot t sv e
    exact ⟨u, h3, h4.ext hg hx⟩, hr'.gi⟩ hv
def opSlots (op : Op) : List Nat := op.operands.toList.filterMap fun | .tmp t => some t | _ => none
def numE : Nat → List BV → List (Nat × BV)
  | _, [] => []
  | f, v :: l => (f, v) :: numE (f + 1) l
theorem setUpd_app {bl : List BV} {E F : List (Nat × BV)} : setUpd bl (E ++ F) = setUpd (setUpd bl E) F := by
  induction E generalizing bl with
  | nil => rfl
  | cons x E ih => exact ih
theorem setNew_num {bl : List BV} {f : Nat} {l : List BV} : setNew bl f l = setUpd bl (numE f l) := by
  induction l generalizing bl f with
  | nil => rfl
  | cons x l ih => exact ih
theorem setUpd_lenD {bl : List BV} {E : List (Nat × BV)} : (setUpd bl E).length = bl.length := by
  induction E generalizing bl with
  | nil => rfl
  | cons x E ih => exact ih.trans (by simp)
def lastE : List (Nat × BV) → Nat → Option BV
  | [], _ => none
  | (c, v) :: l, b => match lastE l b with | some u => some u | none => cond (Nat.beq c b) (some v) none
theorem lastE_cons {c : Nat} {v : BV} {l : List (Nat × BV)} {b : Nat} : lastE ((c, v) :: l) b = match lastE l b with | some u => some u | none => cond (Nat.beq c b) (some v) none := rfl
theorem setUpd_get {bl : List BV} {E : List (Nat × BV)} {b : Nat} : (setUpd bl E)[b]? = match lastE E b with | some u => cond (Nat.blt b bl.length) (some u) none | none => bl[b]? := by
  induction E generalizing bl with
  | nil => rfl
  | cons x E ih =>
    obtain ⟨c, v⟩ := x
    show (setUpd (bl.set c v) E)[b]? = _
    rw [ih, lastE_cons]
    cases lastE E b with
    | some u => simp
    | none =>
      dsimp only
      cases hb : Nat.beq c b with
      | true =>
        have := Nat.eq_of_beq_eq_true hb
        subst this
        rw [List.getElem?_set_self']
        by_cases hlt : c < bl.length
        · have : Nat.blt c bl.length = true := by simpa using hlt
          rw [this, List.getElem?_eq_getElem hlt]
          rfl
        · have : Nat.blt c bl.length = false := by
            cases hx : Nat.blt c bl.length with
            | false => rfl
            | true => exact absurd (by simpa using hx) hlt
          rw [this, List.getElem?_eq_none (by omega)]
          rfl
      | false =>
        have : c ≠ b := fun e => by subst e; simp at hb
        rw [List.getElem?_set_ne this]
        rfl
theorem lastE_mem {E : List (Nat × BV)} {b : Nat} {u : BV} (h : lastE E b = some u) : b ∈ E.map Prod.fst := by
  induction E with
  | nil => cases h
  | cons x E ih =>
    obtain ⟨c, v⟩ := x
    unfold lastE at h
    split at h
    · rename_i w e
      injection h with h; subst h
      exact List.mem_cons_of_mem _ (ih e)
    · cases hb : Nat.beq c b with
      | true => have := Nat.eq_of_beq_eq_true hb; subst this; exact List.mem_cons_self ..
      | false => rw [hb] at h; cases h
def TolD (f : Nat) : Tr → List BV → Nat → List (Nat × BV) → SV → Prop
  | .no, _, _, _, _ => False
  | .done e, bl, fp, E, v => E = e.upd ++ numE f e.new ∧ v = e.val
  | .need b k, bl, fp, E, v => hasN fp b = true ∧ ∃ bv, bl[b]? = some bv ∧ TolD f (k bv) bl fp E v
  | .frz b k, bl, fp, E, v => hasN fp b = true ∧ ∃ bv fv E', bl[b]? = some bv ∧ frzB bv = some fv ∧ E = (b, fv) :: E' ∧ TolD f k (bl.set b fv) fp E' v
  | .grd c k, bl, fp, E, v => c = true ∧ TolD f k bl fp E v
  | .bnd x k, bl, fp, E, v => ∃ t, x = some t ∧ TolD f (k t) bl fp E v
  | .sub _ k, bl, fp, E, v => ∃ idl, (∀ b ∈ idl, hasN fp b = true) ∧ TolD f (k (maskB 0 idl bl)) bl fp E v
  | .alt x k1 k2, bl, fp, E, v => (∃ a, x = .inl a ∧ TolD f (k1 a) bl fp E v) ∨ ∃ b, x = .inr b ∧ TolD f (k2 b) bl fp E v
theorem natMem_mem {x : Nat} {l : List Nat} (h : natMem x l = true) : x ∈ l := by
  induction l with
  | nil => cases h
  | cons y l ih =>
    have h : cond (Nat.beq x y) true (natMem x l) = true := h
    cases hb : Nat.beq x y with
    | true => have := Nat.eq_of_beq_eq_true hb; subst this; exact List.mem_cons_self ..
    | false => rw [hb] at h; exact List.mem_cons_of_mem _ (ih h)
theorem maskB_congr {ids : List Nat} : ∀ {bl bl2 : List BV} {i : Nat}, bl2.length = bl.length → (∀ b, i + b ∈ ids → bl2[b]? = bl[b]?) → maskB i ids bl2 = maskB i ids bl
  | [], [], _, _, _ => rfl
  | [], _ :: _, _, h, _ => by cases h
  | _ :: _, [], _, h, _ => by cases h
  | x :: bl, y :: bl2, i, hl, h => by
    unfold maskB
    rw [maskB_congr (i := i + 1) (by simpa using hl) fun b hb => by simpa using h (b + 1) (by rw [show i + (b + 1) = i + 1 + b by omega]; exact hb)]
    congr 1
    cases hm : natMem i ids with
    | false => rfl
    | true =>
      have := h 0 (natMem_mem hm)
      simp at this
      rw [this]
theorem TolD.told {f : Nat} {fp : Nat} : ∀ {t : Tr} {bl bl2 : List BV} {E : List (Nat × BV)} {v : SV}, TolD f t bl fp E v → bl2.length = bl.length → (∀ b, hasN fp b = true → bl2[b]? = bl[b]?) → Told f t bl2 (setUpd bl2 E) v
  | .no, _, _, _, _, h, _, _ => h
  | .done e, _, bl2, _, _, ⟨h1, h2⟩, _, _ => ⟨by rw [h1, setUpd_app]; exact (setNew_num).symm, h2⟩
  | .need b k, bl, bl2, E, v, ⟨h1, bv, h2, h3⟩, hl, ha => ⟨bv, (ha b h1).trans h2, TolD.told h3 hl ha⟩
  | .frz b k, bl, bl2, E, v, ⟨h1, bv, fv, E', h2, h3, h4, h5⟩, hl, ha => by
    subst h4
    refine ⟨bv, fv, (ha b h1).trans h2, h3, TolD.told h5 (by simp [hl]) fun c hc => ?_⟩
    by_cases e : b = c
    · subst e
      rw [List.getElem?_set_self', List.getElem?_set_self', ha b h1]
    · rw [List.getElem?_set_ne e, List.getElem?_set_ne e, ha c hc]
  | .grd c k, bl, bl2, E, v, ⟨h1, h2⟩, hl, ha => ⟨h1, TolD.told h2 hl ha⟩
  | .bnd x k, bl, bl2, E, v, ⟨t, h1, h2⟩, hl, ha => ⟨t, h1, TolD.told h2 hl ha⟩
  | .sub _ k, bl, bl2, E, v, ⟨idl, h1, h2⟩, hl, ha => ⟨idl, by
    rw [maskB_congr (i := 0) hl fun b hb => ha b (h1 b (by simpa using hb))]
    exact TolD.told h2 hl ha⟩
  | .alt x k1 k2, bl, bl2, E, v, h, hl, ha => by
    rcases h with ⟨a, h1, h2⟩ | ⟨b, h1, h2⟩
    · exact .inl ⟨a, h1, TolD.told h2 hl ha⟩
    · exact .inr ⟨b, h1, TolD.told h2 hl ha⟩
def runD {ρ : Type} (f : Nat) : Tr → List BV → Nat → List (Nat × BV) → (Nat → List (Nat × BV) → SV → Option ρ) → Option ρ
  | .no, _, _, _, _ => none
  | .done e, bl, fp, E, K => K fp (E ++ (e.upd ++ numE f e.new)) e.val
  | .need b k, bl, fp, E, K => match bl[b]? with | some bv => runD f (k bv) bl (uniN (bitN b) fp) E K | none => none
  | .frz b k, bl, fp, E, K => match bl[b]? with | some bv => (match frzB bv with | some fv => runD f k (bl.set b fv) (uniN (bitN b) fp) (E ++ [(b, fv)]) K | none => none) | none => none
  | .grd c k, bl, fp, E, K => gd c (runD f k bl fp E K)
  | .bnd x k, bl, fp, E, K => bd x fun t => runD f (k t) bl fp E K
  | .sub ids k, bl, fp, E, K => runD f (k (maskB 0 (ids bl) bl)) bl (uniN (bitsOf (ids bl)) fp) E K
  | .alt x k1 k2, bl, fp, E, K => sm x (fun a => runD f (k1 a) bl fp E K) (fun b => runD f (k2 b) bl fp E K)
theorem runD_told {ρ : Type} {f : Nat} {K : Nat → List (Nat × BV) → SV → Option ρ} {r : ρ} : ∀ {t : Tr} {bl : List BV} {fp : Nat} {E : List (Nat × BV)}, runD f t bl fp E K = some r → ∃ fp' E' v, (∀ b, hasN fp b = true → hasN fp' b = true) ∧ TolD f t bl fp' E' v ∧ K fp' (E ++ E') v = some r
  | .no, _, _, _, h => by cases h
  | .done e, bl, fp, E, h => ⟨fp, _, _, fun _ h => h, ⟨rfl, rfl⟩, h⟩
  | .need b k, bl, fp, E, h => by
    unfold runD at h
    split at h
    · rename_i bv e
      obtain ⟨fp', E', v, h1, h2, h3⟩ := runD_told h
      exact ⟨fp', E', v, fun c hc => h1 c (by rw [hasN_uni, hc]; simp), ⟨h1 b (by rw [hasN_uni, hasN_bit]; rfl), bv, e, h2⟩, h3⟩
    · cases h
  | .frz b k, bl, fp, E, h => by
    unfold runD at h
    split at h
    · rename_i bv e
      split at h
      · rename_i fv e2
        obtain ⟨fp', E', v, h1, h2, h3⟩ := runD_told h
        exact ⟨fp', (b, fv) :: E', v, fun c hc => h1 c (by rw [hasN_uni, hc]; simp), ⟨h1 b (by rw [hasN_uni, hasN_bit]; rfl), bv, fv, E', e, e2, rfl, h2⟩, by simpa using h3⟩
      · cases h
    · cases h
  | .grd c k, bl, fp, E, h => by
    obtain ⟨hc, h⟩ := grd_T ((gd_def _ _).symm.trans h)
    obtain ⟨fp', E', v, h1, h2, h3⟩ := runD_told h
    exact ⟨fp', E', v, h1, ⟨hc, h2⟩, h3⟩
  | .bnd x k, bl, fp, E, h => by
    obtain ⟨t, hx, h⟩ := bindO_T ((bd_def _ _).symm.trans h)
    obtain ⟨fp', E', v, h1, h2, h3⟩ := runD_told h
    exact ⟨fp', E', v, h1, ⟨t, hx, h2⟩, h3⟩
  | .sub ids k, bl, fp, E, h => by
    unfold runD at h
    obtain ⟨fp', E', v, h1, h2, h3⟩ := runD_told h
    exact ⟨fp', E', v, fun c hc => h1 c (by rw [hasN_uni, hc]; simp), ⟨_, fun b hb => h1 b (by rw [hasN_uni, hasN_bits hb]; rfl), h2⟩, h3⟩
  | .alt x k1 k2, bl, fp, E, h => by
    unfold runD at h
    cases x with
    | inl a =>
      obtain ⟨fp', E', v, h1, h2, h3⟩ := runD_told h
      exact ⟨fp', E', v, h1, .inl ⟨a, rfl, h2⟩, h3⟩
    | inr b =>
      obtain ⟨fp', E', v, h1, h2, h3⟩ := runD_told h
      exact ⟨fp', E', v, h1, .inr ⟨b, rfl, h2⟩, h3⟩
end Go.Proofs.YtpleflcfaecojaaGreat
