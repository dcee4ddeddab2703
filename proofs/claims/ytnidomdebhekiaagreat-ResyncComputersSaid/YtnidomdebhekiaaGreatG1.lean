/-
The second engine, part 1: results that may fail to be told (Option), joins and loops of such results; a place in a function's code; operations taken many at a time. Conditions: each lemma's own.
-/
import Derived.Test.YtnidomdebhekiaaGreatE11
namespace Go.Proofs.YtnidomdebhekiaaGreat
set_option linter.unusedVariables false
set_option linter.unusedSimpArgs false
open Go.RowKit
abbrev vi (x : Int) : Value := .int .i64 x
abbrev vy (x : Int) : Value := .int .u8 x
abbrev vb (b : Bool) : Value := .bool b
abbrev vp (b off : Nat) : Value := .pointer (some ⟨b, off, none⟩)
abbrev vs {α : Type} (A : Option Addr) (xs : List α) (c : Nat) : Value := .slice A xs.length c
inductive Ctl (σ ρ : Type) where
  | go (s : σ)
  | done (r : ρ)
def grd {ρ : Type} (b : Bool) (x : Option ρ) : Option ρ := cond b x none
def letJ {τ ρ : Type} (x : τ) (k : τ → ρ) : ρ := k x
def bindO {τ ρ : Type} (x : Option τ) (k : τ → Option ρ) : Option ρ := match x with | some t => k t | none => none
def joinO {τ ρ : Type} (x : Option (Ctl τ ρ)) (k : τ → Option ρ) : Option ρ := match x with | some (.go t) => k t | some (.done r) => some r | none => none
def loopO {σ ρ : Type} (n : Nat) (f : σ → Option (Ctl σ ρ)) (s : σ) : Option ρ := Nat.rec (motive := fun _ => σ → Option ρ) (fun _ => none) (fun _ ih s => joinO (f s) ih) n s
def fuelN : Nat := 18446744073709551616
theorem cond_T {ρ : Type} {b : Bool} {A B : ρ} {r : ρ} (h : b = true) (hS : cond b A B = r) : A = r := by subst h; exact hS
theorem cond_F {ρ : Type} {b : Bool} {A B : ρ} {r : ρ} (h : b = false) (hS : cond b A B = r) : B = r := by subst h; exact hS
theorem grd_T {ρ : Type} {b : Bool} {A : Option ρ} {r : ρ} (hS : grd b A = some r) : b = true ∧ A = some r := by
  cases b with
  | true => exact ⟨rfl, hS⟩
  | false => cases hS
theorem letJ_T {τ ρ : Type} {x : τ} {k : τ → ρ} {r : ρ} (hS : letJ x k = r) : ∃ t, x = t ∧ k t = r := ⟨x, rfl, hS⟩
theorem bindO_T {τ ρ : Type} {x : Option τ} {k : τ → Option ρ} {r : ρ} (hS : bindO x k = some r) : ∃ t, x = some t ∧ k t = some r := by
  cases x with
  | none => cases hS
  | some t => exact ⟨t, rfl, hS⟩
theorem joinO_T {τ ρ : Type} {x : Option (Ctl τ ρ)} {k : τ → Option ρ} {r : ρ} (hS : joinO x k = some r) : ∃ c, x = some c ∧ (∀ t, c = .go t → k t = some r) ∧ ∀ v, c = .done v → v = r := by
  cases x with
  | none => cases hS
  | some c =>
    refine ⟨c, rfl, fun t e => ?_, fun v e => ?_⟩
    · subst e; exact hS
    · subst e; exact Option.some.inj hS
theorem loopO_T {σ ρ : Type} {n : Nat} {f : σ → Option (Ctl σ ρ)} {s : σ} {r : ρ} (hS : loopO n f s = some r) : ∃ m c, n = m + 1 ∧ f s = some c ∧ (∀ t, c = .go t → loopO m f t = some r) ∧ ∀ v, c = .done v → v = r := by
  cases n with
  | zero => cases hS
  | succ m =>
    obtain ⟨c, h1, h2, h3⟩ := joinO_T (x := f s) (k := loopO m f) hS
    exact ⟨m, c, rfl, h1, h2, h3⟩
def child : Code → Nat → Code
  | .seq a _, 0 => a
  | .seq _ b, _ => b
  | .cond _ a _, 0 => a
  | .cond _ _ b, _ => b
  | .block _ c, _ => c
  | .loop c, _ => c
  | .scope c, _ => c
  | _, _ => .skip
def subR (c : Code) : List Nat → Code
  | [] => c
  | i :: p => child (subR c p) i
def kindC : Code → Nat
  | .skip => 0
  | .region _ _ false => 1
  | .region _ _ true => 2
  | .seq _ _ => 3
  | .cond _ _ _ => 4
  | .block _ _ => 5
  | .loop _ => 6
  | .exit _ => 7
  | .ret => 8
  | _ => 9
def idC : Code → Nat
  | .block i _ => i
  | .exit i => i
  | _ => 0
def opdC : Code → Operand
  | .cond o _ _ => o
  | _ => .tmp 0
section
variable {P : Program} {Q : Exit → Act → World → Prop} {n : Nat} {g : Gh} {own : Own} {sl : Sl} {C : Code} {p : List Nat}
theorem xSq (k : WPc P (subR C (0 :: p)) (Exit.then (fun a w => (subR C (1 :: p)).wp P Q a w) Q) n g own sl) (h : kindC (subR C p) = 3 := by kernel_rfl) : WPc P (subR C p) Q n g own sl := by
  have e0 : subR C (0 :: p) = child (subR C p) 0 := rfl
  have e1 : subR C (1 :: p) = child (subR C p) 1 := rfl
  rw [e0, e1] at k
  generalize subR C p = c at h k
  cases c <;> (try (revert h; simp [kindC]; done))
  · rename_i a d
    cases d <;> simp [kindC] at h
  · exact wpc_seq rfl k
theorem xRg (k : WPr P (regOf (subR C p)) Q n 0 g own sl) (h : kindC (subR C p) = 1 := by kernel_rfl) : WPc P (subR C p) Q n g own sl := by
  generalize subR C p = c at h k
  cases c <;> (try (revert h; simp [kindC]; done))
  rename_i i ops d
  cases d
  · exact wpc_region rfl k
  · simp [kindC] at h
theorem xSk (k : WPq (Q .normal) n g own sl) (h : kindC (subR C p) = 0 := by kernel_rfl) : WPc P (subR C p) Q n g own sl := by
  generalize subR C p = c at h
  cases c <;> (try (revert h; simp [kindC]; done))
  · exact wpc_skip rfl k
  · rename_i i ops d
    cases d <;> simp [kindC] at h
theorem xEx (id : Nat) (k : WPq (Q (.exit id)) n g own sl) (h : (kindC (subR C p), idC (subR C p)) = (7, id) := by kernel_rfl) : WPc P (subR C p) Q n g own sl := by
  generalize subR C p = c at h
  simp only [Prod.mk.injEq] at h
  obtain ⟨h, h2⟩ := h
  cases c <;> (try (revert h; simp [kindC]; done))
  · rename_i i ops d
    cases d <;> simp [kindC] at h
  · subst h2; exact wpc_exit rfl k
theorem xBl (id : Nat) (k : WPc P (subR C (0 :: p)) (Exit.inBlock id Q) n g own sl) (h : (kindC (subR C p), idC (subR C p)) = (5, id) := by kernel_rfl) : WPc P (subR C p) Q n g own sl := by
  have e0 : subR C (0 :: p) = child (subR C p) 0 := rfl
  rw [e0] at k
  generalize subR C p = c at h k
  simp only [Prod.mk.injEq] at h
  obtain ⟨h, h2⟩ := h
  cases c <;> (try (revert h; simp [kindC]; done))
  · rename_i i ops d
    cases d <;> simp [kindC] at h
  · subst h2; exact wpc_block rfl k
theorem xCd (b : Bool) (k1 : b = true → WPc P (subR C (0 :: p)) Q n g own sl) (k0 : b = false → WPc P (subR C (1 :: p)) Q n g own sl) (h : kindC (subR C p) = 4 := by kernel_rfl) (hb : evS sl (opdC (subR C p)) = some (.bool b) := by kernel_rfl) : WPc P (subR C p) Q n g own sl := by
  have e0 : subR C (0 :: p) = child (subR C p) 0 := rfl
  have e1 : subR C (1 :: p) = child (subR C p) 1 := rfl
  rw [e0] at k1
  rw [e1] at k0
  generalize subR C p = c at h hb k1 k0
  cases c <;> (try (revert h; simp [kindC]; done))
  · rename_i i ops d
    cases d <;> simp [kindC] at h
  · exact wpc_cond rfl hb k1 k0
theorem xCt (k1 : WPc P (subR C (0 :: p)) Q n g own sl) (h : kindC (subR C p) = 4 := by kernel_rfl) (hb : evS sl (opdC (subR C p)) = some (.bool true) := by kernel_rfl) : WPc P (subR C p) Q n g own sl :=
  xCd true (fun _ => k1) (fun e => by cases e) h hb
theorem xCf (k0 : WPc P (subR C (1 :: p)) Q n g own sl) (h : kindC (subR C p) = 4 := by kernel_rfl) (hb : evS sl (opdC (subR C p)) = some (.bool false) := by kernel_rfl) : WPc P (subR C p) Q n g own sl :=
  xCd false (fun e => by cases e) (fun _ => k0) h hb
theorem xSel {K : Act → World → Prop} (is : List (Option Nat)) (k : WPq K n g (pickP is own) sl) (hn : decide (is.filterMap id).Nodup = true := by kernel_rfl) : WPq K n g own sl := wpq_sel is _ hn rfl k
theorem xSub {K : Act → World → Prop} (sl' : Sl) (k : WPq K n g own sl') (h : sl'.map (fun p => getS sl p.1) = sl'.map (fun p => some p.2) := by kernel_rfl) : WPq K n g own sl := wpq_sub sl' h k
theorem xOwn {K : Act → World → Prop} (own' : Own) (k : WPq K n g own' sl) (h : own = own' := by kernel_rfl) : WPq K n g own sl := wpq_own own' h k
theorem xLo {σ ρ : Type} {N : Nat} {f : σ → Option (Ctl σ ρ)} {s0 : σ} {r : ρ} (hS : loopO N f s0 = some r) (J : Gh → Own → Sl → σ → Prop) (h0 : J g own sl s0)
    (round : ∀ g1 own1 sl1 s c, g.le g1 → J g1 own1 sl1 s → f s = some c → ∀ Qr : Act → World → Prop, (∀ t, c = .go t → ∀ g2 own2 sl2, g1.le g2 → J g2 own2 sl2 t → WPq Qr n g2 own2 sl2) → (∀ v, c = .done v → v = r) → WPc P (subR C (0 :: p)) (Exit.then Qr Q) n g1 own1 sl1)
    (h : kindC (subR C p) = 6 := by kernel_rfl) : WPc P (subR C p) Q n g own sl := by
  have e0 : subR C (0 :: p) = child (subR C p) 0 := rfl
  rw [e0] at round
  generalize subR C p = c at h round
  cases c <;> (try (revert h; simp [kindC]; done))
  · rename_i i ops d
    cases d <;> simp [kindC] at h
  · rename_i x
    refine wpc_loop (x := x) rfl (fun g own sl m => ∃ s, J g own sl s ∧ loopO m f s = some r) N ⟨s0, h0, hS⟩ ?_
    rintro g1 own1 sl1 m hle ⟨s, hJ, hl⟩ Qr hQ
    obtain ⟨m', c, e, h1, h2, h3⟩ := loopO_T hl
    exact round g1 own1 sl1 s c hle hJ h1 Qr (fun t et g2 own2 sl2 hle2 hJ2 => hQ g2 own2 sl2 m' hle2 (by omega) ⟨t, hJ2, h2 t et⟩) h3
theorem xJoinO {τ ρ : Type} {c : Code} {X : Option (Ctl τ ρ)} {k : τ → Option ρ} {r : ρ} (hS : joinO X k = some r) (J : Gh → Own → Sl → τ → Prop)
    (cont : ∀ g' own' sl' t, g.le g' → J g' own' sl' t → k t = some r → WPq (Q .normal) n g' own' sl')
    (ways : ∀ c', X = some c' → (∀ t, c' = .go t → ∀ g' own' sl', g.le g' → J g' own' sl' t → WPq (Q .normal) n g' own' sl') → (∀ v, c' = .done v → v = r) → WPc P c Q n g own sl) : WPc P c Q n g own sl := by
  obtain ⟨c', h1, h2, h3⟩ := joinO_T hS
  exact ways c' h1 (fun t e g' own' sl' hl hJ => cont g' own' sl' t hl hJ (h2 t e)) h3
theorem xBindO {τ ρ : Type} {c : Code} {X : Option τ} {k : τ → Option ρ} {r : ρ} (hS : bindO X k = some r) (J : Gh → Own → Sl → τ → Prop)
    (cont : ∀ g' own' sl' t, g.le g' → J g' own' sl' t → k t = some r → WPq (Q .normal) n g' own' sl')
    (ways : ∀ c', X = some c' → (∀ t, c' = t → ∀ g' own' sl', g.le g' → J g' own' sl' t → WPq (Q .normal) n g' own' sl') → WPc P c Q n g own sl) : WPc P c Q n g own sl := by
  obtain ⟨c', h1, h2⟩ := bindO_T hS
  exact ways c' h1 fun t e g' own' sl' hl hJ => cont g' own' sl' t hl hJ (e ▸ h2)
theorem xLetJ {τ ρ : Type} {c : Code} {X : τ} {k : τ → ρ} {r : ρ} (hS : letJ X k = r) (J : Gh → Own → Sl → τ → Prop)
    (cont : ∀ g' own' sl' t, g.le g' → J g' own' sl' t → k t = r → WPq (Q .normal) n g' own' sl')
    (ways : ∀ c', X = c' → (∀ t, c' = t → ∀ g' own' sl', g.le g' → J g' own' sl' t → WPq (Q .normal) n g' own' sl') → WPc P c Q n g own sl) : WPc P c Q n g own sl := by
  obtain ⟨c', h1, h2⟩ := letJ_T hS
  exact ways c' h1 fun t e g' own' sl' hl hJ => cont g' own' sl' t hl hJ (e ▸ h2)
end
def hintOf : List (Nat × Nat) → Nat → Option Nat
  | [], _ => none
  | (i, j) :: l, k => cond (Nat.beq i k) (some j) (hintOf l k)
def wantB (ops : Array Oper) (o : Oper) (sl : Sl) : Option Bool :=
  match o.guard with
  | none => some true
  | some (j, b) => match dstAt ops j with
    | none => none
    | some t => match getS sl t with
      | some (.bool c) => some (c == b)
      | some undef => some false
      | none => none
def ownLoad (P : Program) (own : Own) (io : Nat) (t : TypeId) (off : Nat) : Option Value :=
  match own[io]? with
  | some (some k) => match aggOf P t with
    | some m => if Nat.ble (off + m) k.cs.length then some (.agg ((k.cs.drop off).take m).toArray) else none
    | none => if flatOf P t then k.cs[off]? else none
  | _ => none
end Go.Proofs.YtnidomdebhekiaaGreat
