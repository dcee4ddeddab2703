/-
The third engine, part 12c: code. Conditions: each lemma's own.
-/
import Derived.LoopN
import Derived.Test.YtpleflcfaecojaaGreatH12x
namespace Go.Proofs.YtpleflcfaecojaaGreat
set_option linter.unusedVariables false
set_option linter.unusedSimpArgs false
open Go.RowKit
inductive HC where
  | d
  | cut
  | r (m : Nat)
  | j (ex : Bool) (sc : List Sch) (h : HC)
  | on (sc : Sch) (a b : HC)
  | s (a b : HC)
  | c (a b : HC)
  | b (a : HC)
  | l (sc : List Sch) (a : HC)
  | u (k : Nat) (a : HC)
  | v (a b : HC)
def HC.s1 : HC → HC | .s x _ => x | _ => .d
def HC.s2 : HC → HC | .s _ y => y | _ => .d
def HC.c1 : HC → HC | .c x _ => x | _ => .d
def HC.c2 : HC → HC | .c _ y => y | _ => .d
def HC.b1 : HC → HC | .b x => x | _ => .d
def HC.l1 : HC → HC | .l _ x => x | .u _ x => x | _ => .d
def HC.uK : HC → Option Nat | .u k _ => some k | _ => none
def HC.v1 : HC → HC | .v x _ => x | x => x
def HC.v2 : HC → HC | .v _ y => y | x => x
def HC.lS : HC → Option (List Sch) | .l y _ => some y | _ => none
def HC.j1 : HC → HC | .j _ _ x => x | x => x
def HC.rM : HC → Nat | .r m => m | _ => 0
def HC.jS : HC → Option (Bool × List Sch) | .j x y _ => some (x, y) | _ => none
def cutAll : List (Nat × SSh) → HSt → HSt
  | [], st => st
  | (t, .v (.c (.own _))) :: l, st => cutAll l (cutS t st)
  | _ :: l, st => cutAll l st
theorem SW.cutAll {n : Nat} {A : An} {g0 : Gh} {K : Act → World → Prop} : ∀ {l : List (Nat × SSh)} {st : HSt}, SW K n A g0 (cutAll l st) → SW K n A g0 st
  | [], st, k => k
  | x :: l, st, k => by
    unfold Go.Proofs.YtpleflcfaecojaaGreat.cutAll at k
    split at k
    · exact k
    · rename_i e
      injection e with e1 e2
      subst e2
      exact (SW.cutAll k).cutS
    · rename_i e
      injection e with e1 e2
      subst e2
      exact SW.cutAll k
def absD (np : Nat) (sc : Sch) (st : HSt) : Option (HT sc.tr) := match absSt false sc (sig0 0 np ++ nones (sc.bl.length - np)) (cutAll sc.sl st) with
  | some s => (match conSt id sc s.ds with
    | some st' => cond (joinChk s st'.bl) (pack sc.tr s.ds) none
    | none => none)
  | none => none
def conT (sc : Sch) (t : HT sc.tr) : Option HSt := conSt id sc (unpack sc.tr t)
theorem absD_ok {K : Act → World → Prop} {n : Nat} {A : An} {g0 : Gh} {st : HSt} {sc : Sch} {t : HT sc.tr} (h : absD A.np sc st = some t) : ∃ st', conT sc t = some st' ∧ (SW K n A g0 st' → SW K n A g0 st) := by
  unfold absD at h
  split at h
  · rename_i s hs
    split at h
    · rename_i st' hc
      obtain ⟨hk, h⟩ := condS h
      refine ⟨st', ?_, fun k => (SW.weaken hs hc hk k).cutAll⟩
      unfold conT
      rw [pack_un _ h]
      exact hc
    · cases h
  · cases h
def slotT : Operand → Bool → HSt → HSt
  | .tmp t, b, st => ⟨(t, vC (.bool b)) :: st.sl, st.bl⟩
  | _, _, st => st
def ALT : List Sch → Type
  | [] => Empty
  | [s] => HT s.tr
  | s :: t :: l => HT s.tr ⊕ ALT (t :: l)
def absDs (np : Nat) (st : HSt) : (l : List Sch) → Option (ALT l)
  | [] => none
  | [s] => absD np s st
  | s :: t :: l => match absD np s st with
    | some x => some (.inl x)
    | none => match absDs np st (t :: l) with | some y => some (.inr y) | none => none
def conTs {ρ : Type} (K : HSt → Option ρ) : (l : List Sch) → ALT l → Option ρ
  | [], _ => none
  | [s], x => match conT s x with | some st' => K st' | none => none
  | s :: t :: l, x => sm x (fun a => match conT s a with | some st' => K st' | none => none) (fun b => conTs K (t :: l) b)
theorem absDs_ok {K : Act → World → Prop} {n : Nat} {A : An} {g0 : Gh} {st : HSt} : ∀ {l : List Sch} {t : ALT l}, absDs A.np st l = some t →
    ∃ st', (∀ {ρ : Type} {k : HSt → Option ρ} {r : ρ}, conTs k l t = some r → k st' = some r) ∧ (SW K n A g0 st' → SW K n A g0 st)
  | [], t, h => by cases h
  | [s], t, h => by
    obtain ⟨st', h1, h2⟩ := absD_ok (K := K) (n := n) (g0 := g0) (h : absD A.np s st = some t)
    refine ⟨st', fun {ρ k r} hk => ?_, h2⟩
    have hk : (match conT s t with | some st' => k st' | none => none) = some r := hk
    rw [h1] at hk; exact hk
  | s :: s2 :: l, t, h => by
    unfold absDs at h
    split at h
    · rename_i x hx
      injection h with h; subst h
      obtain ⟨st', h1, h2⟩ := absD_ok (K := K) (n := n) (g0 := g0) hx
      refine ⟨st', fun {ρ k r} hk => ?_, h2⟩
      have hk : (match conT s x with | some st' => k st' | none => none) = some r := hk
      rw [h1] at hk; exact hk
    · split at h
      · rename_i y hy
        injection h with h; subst h
        obtain ⟨st', h1, h2⟩ := absDs_ok (K := K) (n := n) (g0 := g0) hy
        exact ⟨st', fun {ρ k r} hk => h1 hk, h2⟩
      · cases h
def fitsD (np : Nat) (sc : Sch) (st : HSt) : Bool := match absSt false sc (sig0 0 np ++ nones (sc.bl.length - np)) (cutAll sc.sl st) with
  | some _ => true
  | none => false
def HC.sel (np : Nat) (st : HSt) : HC → HC
  | .on sc x1 x2 => match fitsD np sc st with | true => x1.sel np st | false => x2.sel np st
  | h => h
noncomputable def cutX {ρ : Type} (h : HC) (y : Option ρ) : Option ρ := (fun _ : Nat → Option Unit => match h with | .cut => none | _ => y) fun n => sm (β := Unit) (Sum.inl ()) (fun _ => nlO true (jd (α := Unit) (dnO (bd (gd true (cnd true (loopO n (fun _ => none) ()) none)) some)) fun _ => none) none) fun _ => none
theorem cutX_some {ρ : Type} {h : HC} {y : Option ρ} {r : ρ} (e : cutX h y = some r) : y = some r := by
  cases h <;> first | exact e | cases e
noncomputable def evC {P : Program} (S : Stp P) (n np : Nat) : (c : Code) → HC → {ρ : Type} → HSt → (Exit → HSt → Option ρ) → Option ρ
  | .skip, h, _, st, K => K .normal st
  | .region _ ops false, h, _, st, K => (match (h.sel np st).jS with
    | none => evOps S n ops ops.size 0 st (K .normal)
    | some (_, sc) => bd (evOps S n ops ops.size 0 st fun st' => absDs np st' sc) fun t => conTs (K .normal) sc t)
  | .region _ ops true, h, _, st, K => (match P.follows .mixedOrders with
    | true => (match (h.sel np st).jS with
      | none => evD S n ops ops.size 0 ⟨st.bl.length, [], []⟩ ⟨st.sl, st.bl ++ holes (h.sel np st).rM⟩ (K .normal)
      | some (_, sc) => bd (evD S n ops ops.size 0 ⟨st.bl.length, [], []⟩ ⟨st.sl, st.bl ++ holes (h.sel np st).j1.rM⟩ fun st' => absDs np st' sc) fun t => conTs (K .normal) sc t)
    | false => none)
  | .seq a b, h, _, st, K => (match (h.sel np st).jS with
    | none => evC S n np a (h.sel np st).s1 st fun e st' => match e with | .normal => cutX ((h.sel np st).s2.sel np st') (evC S n np b (h.sel np st).s2 st' K) | e => K e st'
    | some (false, sc) => bd (evC S n np a (h.sel np st).j1.s1 st fun e st' => match e with | .normal => absDs np st' sc | _ => none) fun t => conTs (fun st' => cutX ((h.sel np st).j1.s2.sel np st') (evC S n np b (h.sel np st).j1.s2 st' K)) sc t
    | some (true, sc) => jd (evC S n np a (h.sel np st).j1.s1 st fun e st' => match e with | .normal => (match absDs np st' sc with | some t => some (.go t) | none => none) | e => dnO (K e st')) fun t => conTs (fun st' => cutX ((h.sel np st).j1.s2.sel np st') (evC S n np b (h.sel np st).j1.s2 st' K)) sc t)
  | .cond o a b, h, _, st, K => (match evH st.sl o with
    | some (.v (.c (.bool c))) => cnd c (cutX (h.sel np st).c1 (evC S n np a (h.sel np st).c1 (slotT o true st) K)) (cutX (h.sel np st).c2 (evC S n np b (h.sel np st).c2 (slotT o false st) K))
    | some (.v (.c (.nb e false))) => nlO e (evC S n np a (h.sel np st).c1 (slotT o true st) K) (evC S n np b (h.sel np st).c2 (slotT o false st) K)
    | some (.v (.c (.nb e true))) => nlO e (evC S n np b (h.sel np st).c2 (slotT o false st) K) (evC S n np a (h.sel np st).c1 (slotT o true st) K)
    | _ => none)
  | .block i a, h, _, st, K => evC S n np a (h.sel np st).b1 st fun e st' => match e with | .exit j => (match Nat.beq j i with | true => K .normal st' | false => K (.exit j) st') | e => K e st'
  | .loop a, h, ρ, st, K => (match (h.sel np st).uK with
    | some k => Nat.rec (motive := fun _ => HC → HSt → Option ρ) (fun _ _ => none) (fun _ ih h1 st1 => evC S n np a (h1.sel np st1).v1 st1 fun e st' => match e with | .normal => ih (h1.sel np st1).v2 st' | e => K e st') k (h.sel np st).l1 st
    | none => (match (h.sel np st).lS with
    | some sc => match absDs np st sc with
     | none => none
     | some t0 => loopO fuelN (fun t => conTs (fun st1 => evC S n np a (h.sel np st).l1 st1 fun e st' => match e with | .normal => (match absDs np st' sc with | some t => some (.go t) | none => none) | e => dnO (K e st')) sc t) t0
    | none => none))
  | .exit i, h, _, st, K => K (.exit i) st
  | .ret, h, _, st, K => K .ret st
  | _, _, _, _, _ => none
section
variable {P : Program} {S : Stp P} {n : Nat}
theorem SW.mono {A : An} {K : Act → World → Prop} {g0 g1 : Gh} {st : HSt} (hg : g0.le g1) (k : SW K n A g0 st) : SW K n A g1 st := fun g ρ own fr h => k g ρ own fr (hg.trans h)
theorem sw_then {A : An} {g0 : Gh} {Q : Exit → Act → World → Prop} {N : Act → World → Prop} {e : Exit} {st : HSt} (he : e ≠ .normal) (k : SW (Q e) n A g0 st) : SW (Exit.then N Q e) n A g0 st := by
  cases e <;> first | exact absurd rfl he | exact k
theorem evC_ok : ∀ (c : Code) {A : An} {g0 : Gh} {h : HC} {ρ : Type} {r : ρ} {st : HSt} {K : Exit → HSt → Option ρ} {Q : Exit → Act → World → Prop}, evC S n A.np c h st K = some r → (∀ e st', K e st' = some r → SW (Q e) n A g0 st') → SW (Code.wp P c Q) n A g0 st
  | .skip, A, g0, h, ρ, r, st, K, Q, hs, hK => fun g ρ own fr hg hA hr => wpc_skip rfl (hK _ _ hs g ρ own fr hg hA hr)
  | .region id ops false, A, g0, h, ρ, r, st, K, Q, hs, hK => by
    intro g ρ' own fr hg hA hr
    refine wpc_region (ops := ops) rfl ?_
    unfold evC at hs
    split at hs
    · exact evOps_ok (Q := Q) (hK .normal) hs g ρ' own fr hg hA hr
    · rename_i e sc _
      obtain ⟨t, h1, h2⟩ := bindO_T ((bd_def _ _).symm.trans hs)
      refine evOps_ok (Q := Q) (g0 := g0) (fun st' h' => ?_) h1 g ρ' own fr hg hA hr
      obtain ⟨st2, h3, h4⟩ := absDs_ok (K := Q .normal) (n := n) (A := A) (g0 := g0) h'
      exact h4 (hK _ _ (h3 h2))
  | .region id ops true, A, g0, h, ρ, r, st, K, Q, hs, hK => by
    unfold evC at hs
    split at hs
    case h_2 => cases hs
    rename_i hm
    split at hs
    · exact SW.holes _ (evD_ok hm hs (hK .normal))
    · rename_i e sc _
      obtain ⟨t, h1, h2⟩ := bindO_T ((bd_def _ _).symm.trans hs)
      refine SW.holes _ (evD_ok hm h1 fun st' h' => ?_)
      obtain ⟨st2, h3, h4⟩ := absDs_ok (K := Q .normal) (n := n) (A := A) (g0 := g0) h'
      exact h4 (hK _ _ (h3 h2))
  | .seq a b, A, g0, h, ρ, r, st, K, Q, hs, hK => by
    intro g ρ' own fr hg hA hr
    refine wpc_seq rfl ?_
    unfold evC at hs
    split at hs
    · refine evC_ok a hs (fun e st' h' => ?_) g ρ' own fr hg hA hr
      cases e with
      | normal => exact evC_ok b (cutX_some h') hK
      | _ => exact sw_then (by simp) (hK _ _ h')
    · rename_i sc _
      obtain ⟨t, h1, h2⟩ := bindO_T ((bd_def _ _).symm.trans hs)
      refine evC_ok a h1 (fun e st' h' => ?_) g ρ' own fr hg hA hr
      cases e with
      | normal =>
        obtain ⟨st2, h3, h4⟩ := absDs_ok (K := Code.wp P b Q) (n := n) (A := A) (g0 := g0) h'
        exact h4 (evC_ok b (cutX_some (h3 h2)) hK)
      | _ => cases h'
    · rename_i sc _
      obtain ⟨ctl, h1, h2, h3⟩ := joinO_T ((jd_def _ _).symm.trans hs)
      refine evC_ok a h1 (fun e st' h' => ?_) g ρ' own fr hg hA hr
      cases e with
      | normal =>
        dsimp only at h'
        split at h'
        · rename_i t ht
          injection h' with h'
          obtain ⟨st2, h4, h5⟩ := absDs_ok (K := Code.wp P b Q) (n := n) (A := A) (g0 := g0) ht
          have h2 := h2 t h'.symm
          exact h5 (evC_ok b (cutX_some (h4 h2)) hK)
        · cases h'
      | _ =>
        obtain ⟨r', hr', h'⟩ := dnO_some h'
        have := h3 r' h'
        subst this
        exact sw_then (by simp) (hK _ _ hr')
  | .cond o a b, A, g0, h, ρ, r, st, K, Q, hs, hK => by
    have key : ∀ (c : Bool) (g : Gh) (ρ' : Env) (own : Own) (fr : Sl), g0.le g → Anch A ρ' st.bl → Rl g ρ' st own fr → evS fr o = some (.bool c) → ∀ cc : Code, SW (Code.wp P cc Q) n A g0 (slotT o c st) → WPc P cc Q n g own fr := by
        intro c g ρ' own fr hg hA hr h1 cc k
        cases o with
        | tmp t =>
          obtain ⟨sl, bl⟩ := st
          intro a w hf hs
          refine k g ρ' own ((t, .bool c) :: fr) hg hA (hr.put t rfl) a w ⟨hf.size, hf.defers, fun s u hu => ?_⟩ hs
          have hu : cond (Nat.beq t s) (some (Value.bool c)) (getS fr s) = some u := hu
          cases hb : Nat.beq t s with
          | true =>
            rw [hb] at hu
            have := Nat.eq_of_beq_eq_true hb
            subst this
            injection hu with hu; subst hu
            exact hf.at_ _ _ h1
          | false => rw [hb] at hu; exact hf.at_ _ _ hu
        | const _ => exact k g ρ' own fr hg hA hr
        | global _ => exact k g ρ' own fr hg hA hr
        | func _ => exact k g ρ' own fr hg hA hr
    unfold evC at hs
    split at hs
    · rename_i c hc
      intro g ρ' own fr hg hA hr
      obtain ⟨v, h1, h2⟩ := evH_real hr hc
      have h2 : v = .bool c := h2
      subst h2
      rcases cnd_cases hs with ⟨e, hs⟩ | ⟨e, hs⟩
      · subst e; exact wpc_cond rfl h1 (fun _ => key true g ρ' own fr hg hA hr h1 a (evC_ok a (cutX_some hs) hK)) (fun e2 => by cases e2)
      · subst e; exact wpc_cond rfl h1 (fun e2 => by cases e2) (fun _ => key false g ρ' own fr hg hA hr h1 b (evC_ok b (cutX_some hs) hK))
    · rename_i e hc
      intro g ρ' own fr hg hA hr
      obtain ⟨v, h1, bb, rfl, h2⟩ := evH_real hr hc
      obtain ⟨hy, hx⟩ := nlO_some hs
      cases bb with
      | true => exact wpc_cond rfl h1 (fun _ => key true g ρ' own fr hg hA hr h1 a (evC_ok a (hx (h2 rfl)) hK)) (fun e2 => by cases e2)
      | false => exact wpc_cond rfl h1 (fun e2 => by cases e2) (fun _ => key false g ρ' own fr hg hA hr h1 b (evC_ok b hy hK))
    · rename_i e hc
      intro g ρ' own fr hg hA hr
      obtain ⟨v, h1, bb, rfl, h2⟩ := evH_real hr hc
      obtain ⟨hy, hx⟩ := nlO_some hs
      cases bb with
      | true => exact wpc_cond rfl h1 (fun e2 => by cases e2) (fun _ => key false g ρ' own fr hg hA hr h1 b (evC_ok b (hx (h2 rfl)) hK))
      | false => exact wpc_cond rfl h1 (fun _ => key true g ρ' own fr hg hA hr h1 a (evC_ok a hy hK)) (fun e2 => by cases e2)
    · cases hs
  | .block i a, A, g0, h, ρ, r, st, K, Q, hs, hK => by
    intro g ρ' own fr hg hA hr
    refine wpc_block rfl (evC_ok a (h := (h.sel A.np st).b1) hs (fun e st' h' => ?_) g ρ' own fr hg hA hr)
    cases e with
    | exit j =>
      dsimp only at h'
      split at h'
      · rename_i e
        have h2' := h'
        have := Nat.eq_of_beq_eq_true e
        subst this
        exact fun g ρ own fr hg hA hr => wpq_blockE (hK _ _ h2' g ρ own fr hg hA hr)
      · rename_i e
        have h2' := h'
        exact fun g ρ own fr hg hA hr => wpq_blockX e (hK _ _ h2' g ρ own fr hg hA hr)
    | _ => exact hK _ _ h'
  | .loop a, A, g0, h, ρ, r, st, K, Q, hs, hK => by
    unfold evC at hs
    split at hs
    · rename_i k _
      have key : ∀ (k : Nat) (h1 : HC) (st : HSt), Nat.rec (motive := fun _ => HC → HSt → Option ρ) (fun _ _ => none) (fun _ ih h1 st1 => evC S n A.np a (h1.sel A.np st1).v1 st1 fun e st' => match e with | .normal => ih (h1.sel A.np st1).v2 st' | e => K e st') k h1 st = some r → SW (Code.rounds P a Q k) n A g0 st := by
        intro k
        induction k with
        | zero => intro h1 st hs; cases hs
        | succ k ih =>
          intro h1 st hs
          exact evC_ok a (Q := Exit.then (Code.rounds P a Q k) Q) hs fun e st' h' => match e, h' with
            | .normal, h' => ih _ st' h'
            | .exit i, h' => sw_then (by simp) (hK _ _ h')
            | .goto i, h' => sw_then (by simp) (hK _ _ h')
            | .ret, h' => sw_then (by simp) (hK _ _ h')
            | .panic c, h' => sw_then (by simp) (hK _ _ h')
            | .outgrown, h' => sw_then (by simp) (hK _ _ h')
      intro g ρ' own fr hg hA hr a' w' hf hw
      exact wp_loop_rounds k (key k _ _ hs g ρ' own fr hg hA hr a' w' hf hw)
    split at hs
    · rename_i sc _
      split at hs
      · cases hs
      rename_i t0 h0
      have hl := hs
      generalize hB : (fun t => conTs (fun st1 => evC S n A.np a (h.sel A.np st).l1 st1 fun e st' => match e with | .normal => (match absDs A.np st' sc with | some t => some (.go t) | none => none) | e => dnO (K e st')) sc t) = B at hl
      have hst0 : ∃ st0, (∀ {ρ : Type} {k : HSt → Option ρ} {r : ρ}, conTs k sc t0 = some r → k st0 = some r) ∧ (SW (Code.wp P (.loop a) Q) n A g0 st0 → SW (Code.wp P (.loop a) Q) n A g0 st) := absDs_ok h0
      obtain ⟨st0, hc0, hw0⟩ := hst0
      refine hw0 ?_
      clear h0 hw0
      intro g ρ' own fr hg hA hr
      refine wpc_loop (P := P) (Q := Q) rfl (fun g1 own1 fr1 m => g0.le g1 ∧ ∃ (t : ALT sc) (st1 : HSt) (ρ1 : Env), (∀ {ρ : Type} {k : HSt → Option ρ} {r : ρ}, conTs k sc t = some r → k st1 = some r) ∧ Anch A ρ1 st1.bl ∧ Rl g1 ρ1 st1 own1 fr1 ∧ loopO m B t = some r) fuelN ⟨hg, t0, st0, ρ', hc0, hA, hr, hl⟩ ?_
      rintro g1 own1 fr1 m hg1 ⟨hg01, t, st1, ρ1, hc1, hA1, hr1, hl1⟩ Qr hQr
      obtain ⟨m', ctl, em, h1, h2, h3⟩ := loopO_T hl1
      subst em
      rw [← hB] at h1
      have h1 := hc1 h1
      refine evC_ok a (g0 := g1) h1 (Q := Exit.then Qr Q) (fun e st' h' => ?_) g1 ρ1 own1 fr1 (.refl _) hA1 hr1
      cases e with
      | normal =>
        dsimp only at h'
        split at h'
        · rename_i t' ht
          injection h' with h'
          have h2 := h2 t' h'.symm
          obtain ⟨st2, h4, h5⟩ := absDs_ok (K := Qr) (n := n) (A := A) (g0 := g1) ht
          exact h5 fun g2 ρ2 own2 fr2 hg2 hA2 hr2 => hQr g2 own2 fr2 m' hg2 (Nat.lt_succ_self _) ⟨hg01.trans hg2, t', st2, ρ2, h4, hA2, hr2, h2⟩
        · cases h'
      | _ =>
        obtain ⟨r', hr', h'⟩ := dnO_some h'
        have := h3 r' h'
        subst this
        exact sw_then (by simp) ((hK _ _ hr').mono hg01)
    · cases hs
  | .exit i, A, g0, h, ρ, r, st, K, Q, hs, hK => fun g ρ own fr hg hA hr => wpc_exit rfl (hK _ _ hs g ρ own fr hg hA hr)
  | .ret, A, g0, h, ρ, r, st, K, Q, hs, hK => fun g ρ own fr hg hA hr a w hf hw => wp_ret (hK _ _ hs g ρ own fr hg hA hr a w hf hw)
  | .rangeFunc _ _ _ _, A, g0, h, ρ, r, st, K, Q, hs, hK => by cases hs
  | .scope _, A, g0, h, ρ, r, st, K, Q, hs, hK => by cases hs
  | .label _, A, g0, h, ρ, r, st, K, Q, hs, hK => by cases hs
  | .goto _, A, g0, h, ρ, r, st, K, Q, hs, hK => by cases hs
  | .refuse _, A, g0, h, ρ, r, st, K, Q, hs, hK => by cases hs
end
end Go.Proofs.YtpleflcfaecojaaGreat
