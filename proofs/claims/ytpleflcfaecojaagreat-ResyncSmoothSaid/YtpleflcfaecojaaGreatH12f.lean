/-
The third engine, part 12f: a region that draws its order is told in one order. Conditions: each lemma's own.
-/
import Derived.Test.YtpleflcfaecojaaGreatH12e
namespace Go.Proofs.YtpleflcfaecojaaGreat
set_option linter.unusedVariables false
set_option linter.unusedSimpArgs false
open Go.RowKit
def wantS (ops : Array Oper) (sl : List (Nat × SV)) (o : Oper) : Option Bool := match o.guard with
  | none => some true
  | some (j, want) => match dstAt ops j with
    | none => none
    | some t => match getH sl t with
      | some (.v (.c (.bool b))) => some (b == want)
      | some .und => some false
      | _ => none
def lookM (ops : Array Oper) (o : Oper) : Nat := uniN (bitsOf (opSlots o.op)) (match o.guard with
  | none => 0
  | some (j, _) => match dstAt ops j with | none => 0 | some t => bitN t)
def dstM (o : Oper) : Nat := match o.dst with | some d => bitN d | none => 0
def areHoles (bl : List BV) : Nat → Nat → Bool
  | _, 0 => true
  | f, m + 1 => (match bl[f]? with | some .hole => areHoles bl (f + 1) m | _ => false)
def upto : Nat → Nat → Nat
  | _, 0 => 0
  | f, m + 1 => uniN (bitN f) (upto (f + 1) m)
theorem areHoles_spec {bl : List BV} : ∀ {m f : Nat}, areHoles bl f m = true → ∀ i, i < m → bl[f + i]? = some .hole
  | m + 1, f, h, i, hi => by
    unfold areHoles at h
    split at h
    · rename_i e
      cases i with
      | zero => exact e
      | succ i => rw [show f + (i + 1) = f + 1 + i by omega]; exact areHoles_spec h i (by omega)
    · cases h
theorem upto_spec : ∀ {m f i : Nat}, i < m → hasN (upto f m) (f + i) = true
  | m + 1, f, i, hi => by
    show hasN (uniN _ _) _ = true
    rw [hasN_uni]
    cases i with
    | zero => rw [Nat.add_zero, hasN_bit]; rfl
    | succ i => rw [show f + (i + 1) = f + 1 + i by omega, upto_spec (by omega)]; simp
def fstB (E : List (Nat × BV)) : Nat := bitsOf (E.map Prod.fst)
def maskE (i : Nat) (ms : List Nat) : List Edge → Nat
  | [] => 0
  | e :: es => cond (Region.binds .any e) (uniN (uniN (bitN e.on) (match ms[i - 1 - e.on]? with | some m => m | none => 0)) (maskE i ms es)) (maskE i ms es)
def fwdE (i : Nat) : List Edge → Bool
  | [] => true
  | e :: es => cond (Region.binds .any e) (Nat.blt e.on i && fwdE i es) (fwdE i es)
def okRow (m : Nat) (x : F4) : Nat → List F4 → Bool
  | 0, [] => true
  | i + 1, y :: ys => cond (hasN m i) (okRow m x i ys) (dj x y && okRow m x i ys)
  | _, _ => false
structure DAcc where
  f : Nat
  ms : List Nat
  fs : List F4
def addD {ρ : Type} (ops : Array Oper) (i : Nat) (o : Oper) (acc : DAcc) (f' : Nat) (x : F4) (K : DAcc → Option ρ) : Option ρ := match fwdE i o.after.toList with
  | true => (match okRow (maskE i acc.ms o.after.toList) x i acc.fs with
    | true => K ⟨f', maskE i acc.ms o.after.toList :: acc.ms, x :: acc.fs⟩
    | false => none)
  | false => none
def doD {P : Program} (S : Stp P) (n : Nat) (ops : Array Oper) {ρ : Type} (i : Nat) (o : Oper) (acc : DAcc) (st : HSt) (K : DAcc → HSt → Option ρ) : Option ρ :=
  match areHoles st.bl acc.f (S.m (restr st.sl (opSlots o.op)) o.op) with
  | true => runD acc.f (S.t (restr st.sl (opSlots o.op)) acc.f o.op o.type) st.bl (upto acc.f (S.m (restr st.sl (opSlots o.op)) o.op)) [] fun fp E v =>
    match put n o.dst v ⟨st.sl, setUpd st.bl E⟩ with
    | some st' => addD ops i o acc (acc.f + S.m (restr st.sl (opSlots o.op)) o.op) ⟨fp, fstB E, lookM ops o, dstM o⟩ fun acc' => K acc' st'
    | none => none
  | false => none
def skD (n : Nat) (ops : Array Oper) {ρ : Type} (i : Nat) (o : Oper) (acc : DAcc) (st : HSt) (K : DAcc → HSt → Option ρ) : Option ρ := match o.dst with
  | some d => match Nat.blt d n with | true => addD ops i o acc acc.f ⟨0, 0, lookM ops o, dstM o⟩ fun acc' => K acc' ⟨(d, .und) :: st.sl, st.bl⟩ | false => none
  | none => none
def evD {P : Program} (S : Stp P) (n : Nat) (ops : Array Oper) {ρ : Type} : Nat → Nat → DAcc → HSt → (HSt → Option ρ) → Option ρ
  | 0, i, acc, st, K => match Nat.beq ops.size i with | true => K st | false => none
  | f + 1, i, acc, st, K => match ops[i]? with
    | none => none
    | some o => match o.guard with
      | none => doD S n ops i o acc st fun acc' st' => evD S n ops f (i + 1) acc' st' K
      | some (j, want) => match dstAt ops j with
        | none => none
        | some t => match getH st.sl t with
          | some (.v (.c (.bool b))) => cnd b
              (match want with | true => doD S n ops i o acc ⟨(t, vC (.bool true)) :: st.sl, st.bl⟩ (fun acc' st' => evD S n ops f (i + 1) acc' st' K) | false => skD n ops i o acc ⟨(t, vC (.bool true)) :: st.sl, st.bl⟩ (fun acc' st' => evD S n ops f (i + 1) acc' st' K))
              (match want with | true => skD n ops i o acc ⟨(t, vC (.bool false)) :: st.sl, st.bl⟩ (fun acc' st' => evD S n ops f (i + 1) acc' st' K) | false => doD S n ops i o acc ⟨(t, vC (.bool false)) :: st.sl, st.bl⟩ (fun acc' st' => evD S n ops f (i + 1) acc' st' K))
          | some .und => skD n ops i o acc st (fun acc' st' => evD S n ops f (i + 1) acc' st' K)
          | _ => none
section
variable {P : Program} {S : Stp P} {n : Nat} {ops : Array Oper} {ρ : Type} {r : ρ}
structure RcOk (S : Stp P) (n : Nat) (ops : Array Oper) (st : HSt) (o : Oper) (x : RcD) : Prop where
  d : x.d = o.dst
  lt : ∀ d, o.dst = some d → d < n
  wf : x.Wf
  sR : x.f4.sR = lookM ops o
  how : (wantS ops st.sl o = some true ∧ ∃ f, areHoles st.bl f (S.m (restr st.sl (opSlots o.op)) o.op) = true ∧ (∀ i, i < S.m (restr st.sl (opSlots o.op)) o.op → hasN x.f4.bR (f + i) = true) ∧ TolD f (S.t (restr st.sl (opSlots o.op)) f o.op o.type) st.bl x.f4.bR x.E x.v) ∨
    (wantS ops st.sl o = some false ∧ x.v = .und ∧ x.E = [] ∧ ∃ d, o.dst = some d)
def Closed (ops : Array Oper) (D : Nat → Bool) : Prop := ∀ k o e, ops[k]? = some o → e ∈ o.after.toList → Region.binds .any e = true → D k = true → D e.on = true
def MaskOk (ops : Array Oper) (p m : Nat) : Prop := ∀ D, Closed ops D → D p = true → ∀ j, hasN m j = true → D j = true
def Fwd (ops : Array Oper) (k : Nat) : Prop := ∀ o e, ops[k]? = some o → e ∈ o.after.toList → Region.binds .any e = true → e.on < k
def SepD (ops : Array Oper) (rc : Nat → RcD) (i j : Nat) : Prop := Apart (rc i).f4 (rc j).f4 ∨ ∀ D, Closed ops D → D i = true → D j = true
structure InvD (S : Stp P) (n : Nat) (ops : Array Oper) (st0 : HSt) (i : Nat) (rc : Nat → RcD) (acc : DAcc) (st : HSt) : Prop where
  ok : ∀ k o, k < i → ops[k]? = some o → RcOk S n ops (stD (fun _ => true) st0 rc k) o (rc k)
  op : ∀ k, k < i → ∃ o, ops[k]? = some o
  fwd : ∀ k, k < i → Fwd ops k
  sep : ∀ k j, j < k → k < i → SepD ops rc k j
  ms : ∀ p, p < i → MaskOk ops p (match acc.ms[i - 1 - p]? with | some m => m | none => 0)
  fs : ∀ p, p < i → acc.fs[i - 1 - p]? = some (rc p).f4
  eqv : Eqv st (stD (fun _ => true) st0 rc i)
theorem fwdE_spec {i : Nat} : ∀ {l : List Edge}, fwdE i l = true → ∀ e ∈ l, Region.binds .any e = true → e.on < i
  | x :: l, h, e, he, hb => by
    unfold fwdE at h
    rcases List.mem_cons.1 he with rfl | he
    · rw [hb] at h
      have h : (Nat.blt e.on i && fwdE i l) = true := h
      simp only [Bool.and_eq_true] at h
      simpa using h.1
    · cases hx : Region.binds .any x with
      | true =>
        rw [hx] at h
        have h : (Nat.blt x.on i && fwdE i l) = true := h
        simp only [Bool.and_eq_true] at h
        exact fwdE_spec h.2 e he hb
      | false => rw [hx] at h; exact fwdE_spec h e he hb
theorem maskE_ok {i : Nat} {o : Oper} {ms : List Nat} (ho : ops[i]? = some o) (hms : ∀ p, p < i → MaskOk ops p (match ms[i - 1 - p]? with | some m => m | none => 0)) :
    ∀ {l : List Edge}, (∀ e ∈ l, e ∈ o.after.toList) → (∀ e ∈ l, Region.binds .any e = true → e.on < i) → MaskOk ops i (maskE i ms l)
  | [], _, _, D, hD, hi, j, hj => by
    have : Nat.testBit 0 j = true := hj
    simp at this
  | x :: l, h1, h2, D, hD, hi, j, hj => by
    have ih := maskE_ok ho hms (l := l) (fun e he => h1 e (List.mem_cons_of_mem _ he)) (fun e he => h2 e (List.mem_cons_of_mem _ he)) D hD hi j
    unfold maskE at hj
    cases hx : Region.binds .any x with
    | false => rw [hx] at hj; exact ih hj
    | true =>
      rw [hx] at hj
      have hj : hasN (uniN (uniN _ _) _) j = true := hj
      have hon := hD i o x ho (h1 x (List.mem_cons_self ..)) hx hi
      rw [hasN_uni, hasN_uni] at hj
      simp only [Bool.or_eq_true] at hj
      rcases hj with (hj | hj) | hj
      · rw [hasN_bit_eq hj]; exact hon
      · exact hms x.on (h2 x (List.mem_cons_self ..) hx) D hD hon j hj
      · exact ih hj
theorem okRow_spec {m : Nat} {x : F4} : ∀ {i : Nat} {l : List F4}, okRow m x i l = true → l.length = i ∧ ∀ j y, j < i → l[i - 1 - j]? = some y → hasN m j = true ∨ Apart x y
  | 0, [], h => ⟨rfl, fun j y hj => absurd hj (Nat.not_lt_zero j)⟩
  | 0, _ :: _, h => by cases h
  | i + 1, [], h => by cases h
  | i + 1, y :: ys, h => by
    unfold okRow at h
    have key : okRow m x i ys = true ∧ (hasN m i = true ∨ Apart x y) := by
      cases hm : hasN m i with
      | true => rw [hm] at h; exact ⟨h, .inl rfl⟩
      | false =>
        rw [hm] at h
        have h : (dj x y && okRow m x i ys) = true := h
        simp only [Bool.and_eq_true] at h
        exact ⟨h.2, .inr (dj_spec h.1)⟩
    obtain ⟨ih1, ih2⟩ := okRow_spec key.1
    refine ⟨by simp [ih1], fun j z hj hz => ?_⟩
    by_cases e : j = i
    · subst e
      rw [show j + 1 - 1 - j = 0 by omega] at hz
      simp at hz
      subst hz
      exact key.2
    · rw [show i + 1 - 1 - j = (i - 1 - j) + 1 by omega] at hz
      exact ih2 j z (by omega) (by simpa using hz)
def setRc (rc : Nat → RcD) (i : Nat) (x : RcD) : Nat → RcD := fun k => cond (Nat.beq i k) x (rc k)
theorem setRc_self {rc : Nat → RcD} {i : Nat} {x : RcD} : setRc rc i x i = x := by simp [setRc]
theorem setRc_ne {rc : Nat → RcD} {i k : Nat} {x : RcD} (h : i ≠ k) : setRc rc i x k = rc k := by
  have : Nat.beq i k = false := by
    cases hb : Nat.beq i k with
    | false => rfl
    | true => exact absurd (Nat.eq_of_beq_eq_true hb) h
  simp [setRc, this]
theorem addD_ok {st0 st st' : HSt} {i : Nat} {o : Oper} {rc : Nat → RcD} {acc : DAcc} {f' : Nat} {x : RcD} {K : DAcc → Option ρ} (I : InvD S n ops st0 i rc acc st) (ho : ops[i]? = some o) (hx : RcOk S n ops (stD (fun _ => true) st0 rc i) o x)
    (he : Eqv st' (apR x st)) (h : addD ops i o acc f' x.f4 K = some r) : ∃ rc' acc', InvD S n ops st0 (i + 1) rc' acc' st' ∧ K acc' = some r := by
  unfold addD at h
  split at h
  case h_2 => cases h
  rename_i hf
  split at h
  case h_2 => cases h
  rename_i hrow
  have hfw := fwdE_spec hf
  have hm := maskE_ok ho I.ms (fun e he => he) hfw
  obtain ⟨hl, hr⟩ := okRow_spec hrow
  have hst : ∀ k, k ≤ i → stD (fun _ => true) st0 (setRc rc i x) k = stD (fun _ => true) st0 rc k := fun k hk => stD_rc fun j hj => setRc_ne (by omega)
  refine ⟨setRc rc i x, _, ⟨fun k o' hk ho' => ?_, fun k hk => ?_, fun k hk => ?_, fun k j hj hk => ?_, fun p hp => ?_, fun p hp => ?_, ?_⟩, h⟩
  · rw [hst k (by omega)]
    by_cases e : i = k
    · subst e
      rw [ho] at ho'; injection ho' with ho'; subst ho'
      rw [setRc_self]; exact hx
    · rw [setRc_ne e]; exact I.ok k o' (by omega) ho'
  · by_cases e : i = k
    · subst e; exact ⟨o, ho⟩
    · exact I.op k (by omega)
  · by_cases e : i = k
    · subst e
      intro o' e' ho' he' hb'
      rw [ho] at ho'; injection ho' with ho'; subst ho'
      exact hfw e' he' hb'
    · exact I.fwd k (by omega)
  · unfold SepD
    by_cases e : i = k
    · subst e
      rw [setRc_self, setRc_ne (by omega)]
      rcases hr j _ hj (I.fs j hj) with h1 | h1
      · exact .inr fun D hD hi => hm D hD hi j h1
      · exact .inl h1
    · rw [setRc_ne e, setRc_ne (by omega)]
      exact I.sep k j hj (by omega)
  · by_cases e : i = p
    · subst e
      rw [show i + 1 - 1 - i = 0 by omega]
      exact hm
    · rw [show i + 1 - 1 - p = (i - 1 - p) + 1 by omega]
      exact I.ms p (by omega)
  · by_cases e : i = p
    · subst e
      rw [show i + 1 - 1 - i = 0 by omega, setRc_self]
      rfl
    · rw [show i + 1 - 1 - p = (i - 1 - p) + 1 by omega, setRc_ne e]
      exact I.fs p (by omega)
  · show Eqv st' (apR (setRc rc i x i) (stD _ st0 (setRc rc i x) i))
    rw [setRc_self, hst i (Nat.le_refl i)]
    exact he.trans (I.eqv.ap x)
theorem wantS_eqv {s t : List (Nat × SV)} {o : Oper} (h : ∀ x, getH s x = getH t x) : wantS ops s o = wantS ops t o := by
  unfold wantS
  cases o.guard with
  | none => rfl
  | some q => dsimp only; cases dstAt ops q.1 with
    | none => rfl
    | some t => dsimp only; rw [h t]
theorem fst_last {E : List (Nat × BV)} {b : Nat} {u : BV} (h : lastE E b = some u) : hasN (fstB E) b = true := hasN_bits (lastE_mem h)
theorem dstM_has {o : Oper} {d : Nat} (h : o.dst = some d) : hasN (dstM o) d = true := by
  unfold dstM; rw [h]; exact hasN_bit d
theorem doD_ok {st0 st : HSt} {i : Nat} {o : Oper} {rc : Nat → RcD} {acc : DAcc} {K : DAcc → HSt → Option ρ} (I : InvD S n ops st0 i rc acc st) (ho : ops[i]? = some o) (hw : wantS ops st.sl o = some true)
    (h : doD S n ops i o acc st K = some r) : ∃ rc' acc' st', InvD S n ops st0 (i + 1) rc' acc' st' ∧ K acc' st' = some r := by
  unfold doD at h
  split at h
  case h_2 => cases h
  rename_i hh
  obtain ⟨fp, E, v, h1, h2, h3⟩ := runD_told h
  rw [List.nil_append] at h3
  split at h3
  case h_2 => cases h3
  rename_i st' hp
  have hlt : ∀ d, o.dst = some d → d < n := fun d hd => by
    unfold put at hp
    rw [hd] at hp
    obtain ⟨hdn, _⟩ := condS hp
    simpa using hdn
  have hst : st' = apR ⟨o.dst, E, v, ⟨fp, fstB E, lookM ops o, dstM o⟩⟩ st := by
    unfold put at hp
    split at hp
    · rename_i d hd
      obtain ⟨_, hp⟩ := condS hp
      injection hp with hp
      rw [← hp]
      show _ = HSt.mk (putL o.dst v st.sl) _
      rw [hd]; rfl
    · rename_i hd
      injection hp with hp
      rw [← hp]
      show _ = HSt.mk (putL o.dst v st.sl) _
      rw [hd]; rfl
  have e1 := restr_congr (ts := opSlots o.op) fun t _ => I.eqv.2 t
  obtain ⟨rc', acc', h4, h5⟩ := addD_ok (x := ⟨o.dst, E, v, ⟨fp, fstB E, lookM ops o, dstM o⟩⟩) (st' := st') I ho ⟨rfl, hlt, ⟨fun b u hb => fst_last hb, fun d hd => dstM_has hd⟩, rfl, .inl ⟨(wantS_eqv fun x => I.eqv.2 x).symm.trans hw, acc.f, by rw [← e1, ← I.eqv.1]; exact hh, fun i hi => h1 _ (upto_spec (by rw [e1]; exact hi)), by rw [← e1, ← I.eqv.1]; exact h2⟩⟩ (hst ▸ .refl) h3
  exact ⟨rc', acc', st', h4, h5⟩
theorem skD_ok {st0 st : HSt} {i : Nat} {o : Oper} {rc : Nat → RcD} {acc : DAcc} {K : DAcc → HSt → Option ρ} (I : InvD S n ops st0 i rc acc st) (ho : ops[i]? = some o) (hw : wantS ops st.sl o = some false)
    (h : skD n ops i o acc st K = some r) : ∃ rc' acc' st', InvD S n ops st0 (i + 1) rc' acc' st' ∧ K acc' st' = some r := by
  unfold skD at h
  split at h
  case h_2 => cases h
  rename_i d hd
  split at h
  case h_2 => cases h
  rename_i hdn
  obtain ⟨rc', acc', h4, h5⟩ := addD_ok (x := ⟨o.dst, [], .und, ⟨0, 0, lookM ops o, dstM o⟩⟩) (st' := ⟨(d, .und) :: st.sl, st.bl⟩) I ho ⟨rfl, fun d' hd' => by rw [hd] at hd'; injection hd' with hd'; subst hd'; simpa using hdn, ⟨fun b u hb => absurd (show (none : Option BV) = some u from hb) (by simp), fun d hd => dstM_has hd⟩, rfl, .inr ⟨(wantS_eqv fun x => I.eqv.2 x).symm.trans hw, rfl, rfl, d, hd⟩⟩ (by
      refine ⟨rfl, fun x => ?_⟩
      show _ = getH (putL o.dst _ _) x
      rw [hd]; rfl) h
  exact ⟨rc', acc', _, h4, h5⟩
theorem InvD.turn {st0 st st' : HSt} {i : Nat} {rc : Nat → RcD} {acc : DAcc} (I : InvD S n ops st0 i rc acc st) (e : Eqv st' st) : InvD S n ops st0 i rc acc st' := ⟨I.ok, I.op, I.fwd, I.sep, I.ms, I.fs, e.trans I.eqv⟩
theorem put_known {st : HSt} {t : Nat} {b : Bool} (h : getH st.sl t = some (vC (.bool b))) : Eqv ⟨(t, vC (.bool b)) :: st.sl, st.bl⟩ st := by
  refine ⟨rfl, fun x => ?_⟩
  show getH ((t, _) :: st.sl) x = _
  rw [getH_cons]
  cases hb : Nat.beq t x with
  | false => rfl
  | true =>
    have := Nat.eq_of_beq_eq_true hb
    subst this
    exact h.symm
theorem evD_inv {st0 : HSt} {K : HSt → Option ρ} : ∀ {f i : Nat} {rc : Nat → RcD} {acc : DAcc} {st : HSt}, InvD S n ops st0 i rc acc st → evD S n ops f i acc st K = some r →
    ∃ rc' acc' st', InvD S n ops st0 ops.size rc' acc' st' ∧ K st' = some r
  | 0, i, rc, acc, st, I, h => by
    unfold evD at h
    split at h
    case h_2 => cases h
    rename_i e
    have e := Nat.eq_of_beq_eq_true e
    subst e
    exact ⟨rc, acc, st, I, h⟩
  | f + 1, i, rc, acc, st, I, h => by
    unfold evD at h
    split at h
    · cases h
    · rename_i o ho
      split at h
      · rename_i hg
        obtain ⟨rc', acc', st', I', h'⟩ := doD_ok I ho (by simp [wantS, hg]) h
        exact evD_inv I' h'
      · rename_i j want hg
        split at h
        · cases h
        · rename_i t hj
          split at h
          · rename_i b hb
            have hwant : ∀ {b' : Bool} {st' : HSt}, getH st'.sl t = some (vC (.bool b')) → wantS ops st'.sl o = some (b' == want) := fun {b' st'} hb' => by
              have hb' : getH st'.sl t = some (.v (.c (.bool b'))) := hb'
              simp [wantS, hg, hj, hb']
            rcases cnd_cases h with ⟨e, h2⟩ | ⟨e, h2⟩
            · subst e
              have I2 := I.turn (put_known hb)
              have h0 : getH ((t, vC (.bool true)) :: st.sl) t = some (vC (.bool true)) := getH_top
              clear h
              split at h2
              · obtain ⟨rc', acc', st', I', h'⟩ := doD_ok I2 ho (by rw [hwant h0]; rfl) h2
                exact evD_inv I' h'
              · obtain ⟨rc', acc', st', I', h'⟩ := skD_ok I2 ho (by rw [hwant h0]; rfl) h2
                exact evD_inv I' h'
            · subst e
              have I2 := I.turn (put_known hb)
              have h0 : getH ((t, vC (.bool false)) :: st.sl) t = some (vC (.bool false)) := getH_top
              clear h
              split at h2
              · obtain ⟨rc', acc', st', I', h'⟩ := skD_ok I2 ho (by rw [hwant h0]; rfl) h2
                exact evD_inv I' h'
              · obtain ⟨rc', acc', st', I', h'⟩ := doD_ok I2 ho (by rw [hwant h0]; rfl) h2
                exact evD_inv I' h'
          · rename_i hb
            obtain ⟨rc', acc', st', I', h'⟩ := skD_ok I ho (by simp [wantS, hg, hj, hb]) h
            exact evD_inv I' h'
          · cases h
end
end Go.Proofs.YtpleflcfaecojaaGreat
