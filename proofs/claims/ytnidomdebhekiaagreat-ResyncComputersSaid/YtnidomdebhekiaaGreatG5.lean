/-
The second engine, part 5: what the printing program asks for besides. Conditions: each lemma's own.
-/
import Derived.Test.YtnidomdebhekiaaGreatG4
namespace Go.Proofs.YtnidomdebhekiaaGreat
set_option linter.unusedVariables false
set_option linter.unusedSimpArgs false
open Go.RowKit
section
variable {P : Program} {n : Nat} {p : Psi} {g : Gh} {own : Own} {sl : Sl} {ty : TypeId} {op : Op} {α : Type} {T : Ty α}
theorem cells_lent' {rest : Own} (i b off : Nat) (cs : List Value) (ln : ∀ k, some k ∈ rest → p.m k.g = some k.obj) (h : ((rest[i]?).join.map fun k => (k.g, (k.cs.drop off).take cs.length)) = some (b, cs) := by kernel_rfl) : Cells p ⟨b, off, none⟩ cs := by
  cases e : rest[i]? with
  | none => rw [e] at h; cases h
  | some x =>
    cases x with
    | none => rw [e] at h; cases h
    | some k =>
      rw [e] at h
      simp only [Option.join_some, Option.map_some, Option.some.injEq, Prod.mk.injEq] at h
      obtain ⟨rfl, h2⟩ := h
      exact cells_lent off cs (ln k (List.mem_of_getElem? e)) h2
def stPtr (sl : Sl) (op : Op) : Option (Nat × Nat) := match op with
  | .store _ x _ => match evS sl x with
    | some (.pointer (some ⟨b, off, none⟩)) => some (b, off)
    | _ => none
  | _ => none
def stVal (sl : Sl) (op : Op) : Value := match op with
  | .store _ _ y => (evS sl y).getD undef
  | _ => undef
def stOk (sl : Sl) (op : Op) : Bool := match op with
  | .store _ _ y => (evS sl y).isSome
  | _ => false
def stTy (op : Op) : TypeId := match op with
  | .store t _ _ => t
  | _ => 0
def ownId (own : Own) (io : Nat) : Option Nat := match own[io]? with
  | some (some k) => some k.g
  | _ => none
theorem eStL (b off io : Nat) (h1 : stPtr sl op = some (b, off) := by kernel_rfl) (h2 : ownId own io = some b := by kernel_rfl) (h3 : storeOk P own io (stTy op) off (stVal sl op) = true := by kernel_rfl) (h4 : stOk sl op = true := by kernel_rfl) :
    Eff P n g own sl op ty (fun v' g' own' => g = g' ∧ own' = storeOwn own io off (stVal sl op)) := by
  unfold stPtr at h1
  split at h1
  · rename_i t x y
    split at h1
    · rename_i b' off' hx
      simp only [Option.some.injEq, Prod.mk.injEq] at h1
      obtain ⟨rfl, rfl⟩ := h1
      obtain ⟨v, hv⟩ := Option.isSome_iff_exists.1 (show (evS sl y).isSome = true from h4)
      have hsv : stVal sl (.store t x y) = v := by simp [stVal, hv]
      rw [hsv] at h3 ⊢
      unfold storeOk at h3
      unfold ownId at h2
      split at h3
      · rename_i kb hk
        rw [hk] at h2
        simp only [Option.some.injEq] at h2
        split at h3
        · rename_i m hm
          simp only [Bool.and_eq_true] at h3
          have e1 : m = v.cells.toList.length := Nat.eq_of_beq_eq_true h3.1
          have hm : cellsOfT P t = some m := hm
          subst h2
          have := e_store (P := P) (n := n) (g := g) (ty := ty) (t := t) hx hv hk rfl (vs := v.cells.toList) (by simp) (by rw [hm, e1]) h3.2.1 h3.2.2 rfl
          have hn : storeOwn own io off' v = own.set io (some ⟨kb.g, kb.t, setRow kb.cs off' v.cells.toList⟩) := by simp [storeOwn, hk]
          rw [hn]
          exact this
        · cases h3
      · cases h3
    · cases h1
  · cases h1
end
section
variable {P : Program} {ops : Array Oper} {Q : Exit → Act → World → Prop} {n : Nat} {g : Gh} {own : Own} {sl : Sl} {lds fin : List Nat} {p : Psi} {K : Own}
theorem xGJo {τ ρ : Type} {X : Option τ} {k : τ → Option ρ} {r : ρ} (hS : bindO X k = some r) {i : Nat} (j : Nat) (J : Gh → Own → Sl → τ → Prop) (cont : ∀ g' own' sl' t, g.le g' → J g' own' sl' t → k t = some r → WPr P ops Q n j g' own' sl')
    (ways : ∀ c, X = some c → (∀ t, c = t → ∀ g' own' sl', g.le g' → J g' own' sl' t → WPr P ops Q n j g' own' sl') → WPr P ops Q n i g own sl) : WPr P ops Q n i g own sl := by
  obtain ⟨c, h1, h2⟩ := bindO_T hS
  exact ways c h1 fun t e g' own' sl' hl hJ => cont g' own' sl' t hl hJ (e ▸ h2)
theorem xGJl {τ ρ : Type} {X : τ} {k : τ → ρ} {r : ρ} (hS : letJ X k = r) {i : Nat} (j : Nat) (J : Gh → Own → Sl → τ → Prop) (cont : ∀ g' own' sl' t, g.le g' → J g' own' sl' t → k t = r → WPr P ops Q n j g' own' sl')
    (ways : ∀ c, X = c → (∀ t, c = t → ∀ g' own' sl', g.le g' → J g' own' sl' t → WPr P ops Q n j g' own' sl') → WPr P ops Q n i g own sl) : WPr P ops Q n i g own sl := by
  obtain ⟨c, h1, h2⟩ := letJ_T hS
  exact ways c h1 fun t e g' own' sl' hl hJ => cont g' own' sl' t hl hJ (e ▸ h2)
theorem xGJlA {τ ρ : Type} {X : τ} {k : τ → ρ} {r : ρ} (hS : letJ X k = r) {fuel : Nat} {listed : List Bool} (fuel' : Nat) (listed' : List Bool) (J : Gh → Own → Sl → τ → Prop) (cont : ∀ g' own' sl' t, g.le g' → J g' own' sl' t → k t = r → WPa P ops Q lds fin p K fuel' listed' n g' own' sl')
    (ways : ∀ c, X = c → (∀ t, c = t → ∀ g' own' sl', g.le g' → J g' own' sl' t → WPa P ops Q lds fin p K fuel' listed' n g' own' sl') → WPa P ops Q lds fin p K fuel listed n g own sl) : WPa P ops Q lds fin p K fuel listed n g own sl := by
  obtain ⟨c, h1, h2⟩ := letJ_T hS
  exact ways c h1 fun t e g' own' sl' hl hJ => cont g' own' sl' t hl hJ (e ▸ h2)
end
section
variable {P : Program} {n : Nat} {p : Psi} {own : Own} {sl : Sl} {ty : TypeId} {op : Op}
theorem run_pnil {w : World} (d : Nat) {t e : TypeId} {A : Option Addr} (ht : P.underlying t = some (.pointer e)) : (Op.equalIn (d + 1) t (.pointer A) (.pointer none)).run P w = .ok A.isNone w := by
  cases A <;> simp [Op.equalIn, run_underlying ht]
theorem qPn0 {α : Type} {x : Option α} {v : Value} {b : BinOp} (hn : x = none → v = .pointer none) (hs : ∀ d, x = some d → ∃ A, v = .pointer (some A)) (hc : pnilC P sl op = some (b, v)) :
    ∃ A t y z u, v = .pointer A ∧ A.isNone = x.isNone ∧ op = .binOp b t y z u ∧ evS sl y = some v ∧ evS sl z = some (.pointer none) ∧ ∀ w, (Op.equal t (.pointer A) (.pointer none)).run P w = .ok A.isNone w := by
  unfold pnilC at hc
  split at hc
  · rename_i b' t y z u
    split at hc
    · rename_i v' e h1 h2 h3
      simp only [Option.some.injEq, Prod.mk.injEq] at hc
      obtain ⟨rfl, rfl⟩ := hc
      cases hx : x with
      | none => rw [hn hx] at h1 ⊢; exact ⟨none, t, y, z, u, rfl, rfl, rfl, h1, h2, fun w => run_pnil 9999 h3⟩
      | some d => obtain ⟨A, e⟩ := hs d hx; rw [e] at h1 ⊢; exact ⟨some A, t, y, z, u, rfl, rfl, rfl, h1, h2, fun w => run_pnil 9999 h3⟩
    · cases hc
  · cases hc
theorem qPn {α : Type} {x : Option α} {v : Value} (hn : x = none → v = .pointer none) (hs : ∀ d, x = some d → ∃ A, v = .pointer (some A)) (hc : pnilC P sl op = some (.eql, v) := by kernel_rfl) : Yld P n p own sl op ty (.bool x.isNone) := by
  obtain ⟨A, t, y, z, u, rfl, e2, rfl, h1, h2, h3⟩ := qPn0 hn hs hc
  intro o a w g1 g2 hf hr
  rw [← e2]
  have e4 : (binOp .eql t (.pointer A) (.pointer none)).run P w = .ok (.bool A.isNone) w := by simp only [binOp, Sem.run_bind, h3 w, Result.andThen_ok, Sem.run_pure]
  simp only [execOp, g1, hf.ev h1, hf.ev h2, eqGuard]
  simp [e4]
end
theorem loopO_ok {σ ρ : Type} {f : σ → Option (Ctl σ ρ)} (I : σ → Prop) (μ : σ → Nat) (post : ρ → Prop) (h : ∀ s, I s → (∃ s', f s = some (.go s') ∧ I s' ∧ μ s' < μ s) ∨ ∃ r, f s = some (.done r) ∧ post r) : ∀ (N : Nat) (s : σ), I s → μ s < N → ∃ r, loopO N f s = some r ∧ post r
  | 0, s, _, hm => by omega
  | N + 1, s, hs, hm => by
    have e : loopO (N + 1) f s = joinO (f s) (loopO N f) := rfl
    rcases h s hs with ⟨s', h1, h2, h3⟩ | ⟨r, h1, h2⟩
    · obtain ⟨r, h4, h5⟩ := loopO_ok I μ post h N s' h2 (by omega)
      exact ⟨r, by rw [e, h1]; exact h4, h5⟩
    · exact ⟨r, by rw [e, h1]; rfl, h2⟩
theorem loopO_go {σ ρ : Type} {f : σ → Option (Ctl σ ρ)} {s s' : σ} {N : Nat} (h : f s = some (.go s')) : loopO (N + 1) f s = loopO N f s' := by
  show joinO (f s) (loopO N f) = _
  rw [h]; rfl
theorem loopO_done {σ ρ : Type} {f : σ → Option (Ctl σ ρ)} {s : σ} {r : ρ} {N : Nat} (h : f s = some (.done r)) : loopO (N + 1) f s = some r := by
  show joinO (f s) (loopO N f) = _
  rw [h]; rfl
end Go.Proofs.YtnidomdebhekiaaGreat
