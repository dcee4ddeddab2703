/-
The third engine, part 13: what a function is told to do, and its contract. Conditions: each lemma's own.
-/
import Derived.Test.YtpleflcfaecojaaGreatH12c
namespace Go.Proofs.YtpleflcfaecojaaGreat
set_option linter.unusedVariables false
set_option linter.unusedSimpArgs false
open Go.RowKit
structure FS where
  ps : Sch
  rs : List Sch
  run : HT ps.tr → Option (ALT rs)
def altC : (l : List Sch) → ALT l → Option HSt
  | [], _ => none
  | [s], x => conT s x
  | s :: t :: l, x => match x with | .inl a => conT s a | .inr b => altC (t :: l) b
def ghB (p : Psi) : Gh := ⟨p, p, .refl p⟩
def refOk (bl : List BV) (b : Nat) : Bool := match bl[b]? with | some bv => bv.owned | none => false
def baseC (bl : List BV) : CV → Bool
  | .int _ _ => true
  | .bool _ => true
  | .str _ => true
  | .k _ => true
  | .ptr b _ => refOk bl b
  | .own b => refOk bl b
  | .ro _ _ m => m
  | .fn _ => true
  | .cap f c => baseC bl f && baseC bl c
  | .ifc _ c => baseC bl c
  | _ => false
def allB {α : Type} (p : α → Bool) : List α → Bool
  | [] => true
  | x :: l => p x && allB p l
def base1 (bl : List BV) : V1 → Bool
  | .c x => baseC bl x
  | .agg l => allB (baseC bl) l
def baseS (bl : List BV) : SV → Bool
  | .v x => base1 bl x
  | .tup l => allB (base1 bl) l
  | .und => false
  | .any => true
def baseB (bl : List BV) : BV → Bool
  | .no => true
  | .cells _ l => allB (baseC bl) l
  | .row _ _ _ => true
  | _ => false
def baseSt (st : HSt) : Bool := allB (fun p => baseS st.bl p.2) st.sl && allB (baseB st.bl) st.bl
section
variable {g : Gh} {ρ : Env} {bl : List BV}
theorem baseC_real : ∀ {x : CV} {v : Value}, baseC bl x = true → RealC g ρ bl x v → RealC (ghB g.b) ρ bl x v
  | .int _ _, _, _, h => h
  | .bool _, _, _, h => h
  | .str _, _, _, h => h
  | .k _, _, _, h => h
  | .ptr _ _, _, _, h => h
  | .own _, _, _, h => h
  | .ro _ _ true, _, _, h => h
  | .fn _, _, _, h => h
  | .cap f c, _, hb, ⟨f0, caps, vc, h1, h2, h3⟩ => by
    simp only [baseC, Bool.and_eq_true] at hb
    exact ⟨f0, caps, vc, baseC_real hb.1 h1, baseC_real hb.2 h2, h3⟩
  | .ifc t c, _, hb, ⟨u, h1, h2⟩ => ⟨u, baseC_real (x := c) hb h1, h2⟩
theorem allB_all2 {α β : Type} {p : α → Bool} {R S : α → β → Prop} (hi : ∀ x y, p x = true → R x y → S x y) : ∀ {l : List α} {m : List β}, allB p l = true → All2 R l m → All2 S l m
  | [], [], _, _ => trivial
  | x :: l, y :: m, hp, h => by
    simp only [allB, Bool.and_eq_true] at hp
    exact ⟨hi _ _ hp.1 h.1, allB_all2 hi hp.2 h.2⟩
  | [], _ :: _, _, h => h.elim
  | _ :: _, [], _, h => h.elim
theorem allB_get {α : Type} {p : α → Bool} : ∀ {l : List α} {x : α}, allB p l = true → x ∈ l → p x = true
  | y :: l, x, h, hm => by
    simp only [allB, Bool.and_eq_true] at h
    rcases List.mem_cons.1 hm with rfl | hm
    · exact h.1
    · exact allB_get h.2 hm
theorem base1_real {x : V1} {v : Value} (hb : base1 bl x = true) (h : Real1 g ρ bl x v) : Real1 (ghB g.b) ρ bl x v := by
  cases x with
  | c x => exact baseC_real hb h
  | agg l =>
    obtain ⟨cs, e, h⟩ := h
    exact ⟨cs, e, allB_all2 (fun _ _ => baseC_real) hb h⟩
theorem baseS_real {x : SV} {v : Value} (hb : baseS bl x = true) (h : RealS g ρ bl x v) : RealS (ghB g.b) ρ bl x v := by
  cases x with
  | v x => exact base1_real hb h
  | tup l =>
    obtain ⟨cs, e, h⟩ := h
    exact ⟨cs, e, allB_all2 (fun _ _ => base1_real) hb h⟩
  | und => cases hb
  | any => trivial
theorem baseB_real {bv : BV} {k : Option Bk} {e : Option Addr × Nat} (hb : baseB bl bv = true) (h : BlkR g ρ bl k e bv) : BlkR (ghB g.b) ρ bl k e bv := by
  cases bv with
  | hole => cases hb
  | no => exact h
  | cells t l =>
    obtain ⟨b, cs, h1, h2, h3⟩ := h
    exact ⟨b, cs, h1, h2, allB_all2 (fun _ _ => baseC_real) hb h3⟩
  | row c et xs => exact h
  | fz c xs => cases hb
  | lent l => cases hb
theorem baseSt_real {st : HSt} {own : Own} {fr : Sl} (hb : baseSt st = true) (h : Rl g ρ st own fr) : Rl (ghB g.b) ρ st own fr := by
  simp only [baseSt, Bool.and_eq_true] at hb
  refine ⟨h.len, fun i bv k e1 e2 => baseB_real (allB_get hb.2 (List.mem_of_getElem? e1)) (h.blk i bv k e1 e2), fun t sv e => ?_, h.gi⟩
  obtain ⟨v, h1, h2⟩ := h.slot t sv e
  exact ⟨v, h1, baseS_real (allB_get (p := fun p : Nat × SV => baseS st.bl p.2) hb.1 (getH_mem e)) h2⟩
end
def argH : Nat → List SV → List (Nat × SV)
  | _, [] => []
  | i, v :: l => (i, v) :: argH (i + 1) l
def isArgs : Nat → List (Nat × SSh) → Bool
  | _, [] => true
  | i, (j, _) :: l => Nat.beq j i && isArgs (i + 1) l
def lenAt (bl : List BV) (j : Nat) : Option Nat := match bl[j]? with | some bv => bv.len | none => none
theorem lenAt_some {bl : List BV} {j m : Nat} (h : lenAt bl j = some m) : ∃ bv, bl[j]? = some bv ∧ bv.len = some m := by
  unfold lenAt at h
  split at h
  · rename_i bv e; exact ⟨bv, e, h⟩
  · cases h
def FOk (P : Program) (f : FuncId) (S : FS) : Prop := ∀ (t : HT S.ps.tr) (r : ALT S.rs) (st0 : HSt), S.run t = some r → conT S.ps t = some st0 →
  ∀ (g : Gh) (ρ : Env) (own : Own) (vs : List Value), Rl g ρ st0 own (argS 0 vs) → vs.length = S.ps.sl.length →
    Ctr P f vs g own fun v ψ o => ∃ str ρ', altC S.rs r = some str ∧ baseSt str = true ∧ Rl (ghB ψ) ρ' str o [(0, v)] ∧ ∀ j, j < st0.bl.length → ρ' j = ρ j ∧ ∀ (bv : BV) (m : Nat), str.bl[j]? = some bv → bv.len = some m → lenAt st0.bl j = some m
def resH (P : Program) (st : HSt) : List ResultVar → Option (List V1)
  | [] => some []
  | .tmp t :: l => match getH st.sl t, resH P st l with
    | some (.v x), some m => some (x :: m)
    | _, _ => none
  | .cell x t :: l => match getH st.sl x, resH P st l with
    | some (.v (.c (.ptr b off))), some m => (match st.bl[b]? with
      | some (.cells _ c) => (match readL P t c off with | some (.v y) => some (y :: m) | _ => none)
      | _ => none)
    | _, _ => none
def tupH : List V1 → SV
  | [x] => .v x
  | l => .tup l
def resSh (rs : Sch) : List Sh1 := match rs.sl with
  | [(_, .v x)] => [x]
  | [(_, .tup l)] => l
  | _ => []
def cutB (c : Cd) (r : Nat) (b : Nat) : BV → List BV → List BV
  | .row d et xs, bl => bl.set b .no ++ [.row d et (xs.take r)]
  | _, bl => bl
def isRowB : BV → Bool
  | .row _ _ _ => true
  | _ => false
def cutV : List Sh1 → List V1 → List BV → List V1 × List BV
  | .c (.own _) :: shs, .c (.vw b c l r) :: vs, bl => (match bl[b]? with
    | some bv => cond (isRowB bv && Nat.beq l 0) (.c (.own bl.length) :: (cutV shs vs (cutB c r b bv bl)).1, (cutV shs vs (cutB c r b bv bl)).2) (.c (.vw b c l r) :: (cutV shs vs bl).1, (cutV shs vs bl).2)
    | none => (.c (.vw b c l r) :: (cutV shs vs bl).1, (cutV shs vs bl).2))
  | _ :: shs, v :: vs, bl => (v :: (cutV shs vs bl).1, (cutV shs vs bl).2)
  | _, vs, bl => (vs, bl)
def absR (P : Program) (rv : List ResultVar) (np : Nat) (rs : Sch) (st : HSt) : Option (HT rs.tr) := match resH P st rv with
  | some l => (match absSt false rs (sig0 0 np ++ nones (rs.bl.length - np)) ⟨[(0, tupH (cutV (resSh rs) l st.bl).1)], (cutV (resSh rs) l st.bl).2⟩ with
    | some s => (match conSt id rs s.ds with
      | some st' => cond (joinChk s st'.bl && (baseSt st' && Nat.ble np st.bl.length)) (pack rs.tr s.ds) none
      | none => none)
    | none => none)
  | none => none
def absA (P : Program) (rv : List ResultVar) (np : Nat) (st : HSt) : (l : List Sch) → Option (ALT l)
  | [] => none
  | [s] => absR P rv np s st
  | s :: t :: l => match absR P rv np s st with
    | some x => some (.inl x)
    | none => match absA P rv np st (t :: l) with | some y => some (.inr y) | none => none
noncomputable def evF {P : Program} (S : Stp P) (fn : Func) (ps : Sch) (rs : List Sch) (h : HC) (t : HT ps.tr) : Option (ALT rs) := match conT ps t, fn.body with
  | some st0, some c => evC S fn.ntmps st0.bl.length c h st0 fun e st' => match e with
    | .normal => absA P fn.results.toList st0.bl.length st' rs
    | .ret => absA P fn.results.toList st0.bl.length st' rs
    | _ => none
  | _, _ => none
section
variable {P : Program} {S : Stp P}
theorem resH_ok {st : HSt} {g : Gh} {ρ : Env} {own : Own} {fr : Sl} (hr : Rl g ρ st own fr) : ∀ {rv : List ResultVar} {l : List V1}, resH P st rv = some l → ∃ vs, ResOk P own fr rv vs ∧ All2 (Real1 g ρ st.bl) l vs
  | [], l, h => by injection h with h; subst h; exact ⟨[], res_nil, trivial⟩
  | .tmp t :: rv, l, h => by
    unfold resH at h
    split at h
    · rename_i x m h1 h2
      injection h with h; subst h
      obtain ⟨vs, h3, h4⟩ := resH_ok hr h2
      obtain ⟨v, h5, h6⟩ := hr.slot t _ h1
      exact ⟨v :: vs, res_tmp h5 h3, h6, h4⟩
    · cases h
  | .cell x t :: rv, l, h => by
    unfold resH at h
    split at h
    · rename_i b off m h1 h2
      split at h
      · rename_i t0 c hb
        split at h
        · rename_i y hy
          injection h with h; subst h
          obtain ⟨vs, h3, h4⟩ := resH_ok hr h2
          obtain ⟨v, h5, _, a, ha, rfl⟩ := hr.slot x _ h1
          obtain ⟨k, hk, b0, cs, rfl, h6, h7⟩ := Rl.own_at (sl := st.sl) (bl := st.bl) hr hb
          rw [ha] at h6; injection h6 with h6; subst h6
          rw [addr_add, Nat.zero_add] at h5
          rcases readL_real hy h7 with ⟨hf, u, h8, h9⟩ | ⟨us, h8, h9, h10⟩
          · exact ⟨u :: vs, res_cell1 h5 hk rfl hf h8 h3, h9, h4⟩
          · exact ⟨.agg us.toArray :: vs, res_cellA h5 hk rfl h8 h9 h3, h10, h4⟩
        · cases h
      · cases h
    · cases h
theorem tupH_real {g : Gh} {ρ : Env} {bl : List BV} {l : List V1} {vs : List Value} (h : All2 (Real1 g ρ bl) l vs) : RealS g ρ bl (tupH l) (tupled vs) := by
  match l, vs, h with
  | [], [], _ => exact ⟨[], rfl, trivial⟩
  | [x], [v], h => exact h.1
  | x :: y :: l, v :: u :: vs, h => exact ⟨v :: u :: vs, rfl, h⟩
  | [], _ :: _, h => exact h.elim
  | [_], [], h => exact h.elim
  | [_], _ :: _ :: _, h => exact h.2.elim
  | _ :: _ :: _, [], h => exact h.elim
  | _ :: _ :: _, [_], h => exact h.2.elim
theorem cutV_ok {g : Gh} {fr : Sl} {sl : List (Nat × SV)} {w : World} : ∀ {vs : List V1} {shs : List Sh1} {bl : List BV} {us : List Value} {ρ : Env} {own : Own}, Rl g ρ ⟨sl, bl⟩ own fr → St w g own → All2 (Real1 g ρ bl) vs us →
    ∃ ρ' own', St w g own' ∧ Rl g ρ' ⟨sl, (cutV shs vs bl).2⟩ own' fr ∧ All2 (Real1 g ρ' (cutV shs vs bl).2) (cutV shs vs bl).1 us ∧ Ext ρ bl ρ' (cutV shs vs bl).2 ∧ (∀ j, j < bl.length → ρ' j = ρ j) ∧ bl.length ≤ (cutV shs vs bl).2.length ∧ ∀ j m, j < bl.length → lenAt (cutV shs vs bl).2 j = some m → lenAt bl j = some m := by
  intro vs
  induction vs with
  | nil =>
    intro shs bl us ρ own hr hs h
    have e : cutV shs [] bl = ([], bl) := by cases shs <;> simp [cutV]
    rw [e]
    exact ⟨ρ, own, hs, hr, h, .refl, fun _ _ => rfl, Nat.le_refl _, fun _ _ _ h => h⟩
  | cons v vs ih =>
    intro shs bl us ρ own hr hs h
    cases us with
    | nil => exact h.elim
    | cons u us =>
      obtain ⟨hv, h⟩ := h
      have plain : ∀ shs', ∃ ρ' own', St w g own' ∧ Rl g ρ' ⟨sl, (cutV shs' vs bl).2⟩ own' fr ∧ All2 (Real1 g ρ' (cutV shs' vs bl).2) (v :: (cutV shs' vs bl).1) (u :: us) ∧ Ext ρ bl ρ' (cutV shs' vs bl).2 ∧ (∀ j, j < bl.length → ρ' j = ρ j) ∧ bl.length ≤ (cutV shs' vs bl).2.length ∧ ∀ j m, j < bl.length → lenAt (cutV shs' vs bl).2 j = some m → lenAt bl j = some m := fun shs' => by
        obtain ⟨ρ', own', h1, h2, h3, h4, h5, h6, h7⟩ := ih (shs := shs') hr hs h
        exact ⟨ρ', own', h1, h2, ⟨hv.ext (.refl g) h4, h3⟩, h4, h5, h6, h7⟩
      unfold cutV
      split
      · rename_i bl _ _ _ j0 shs' b c l r vs' e2
        injection e2 with e2 e3
        subst e2; subst e3
        split
        · rename_i bv hb
          cases hc : (isRowB bv && Nat.beq l 0) with
          | false => exact plain shs'
          | true =>
            simp only [Bool.and_eq_true] at hc
            obtain ⟨hc1, hc2⟩ := hc
            have hc2 := Nat.eq_of_beq_eq_true hc2
            subst hc2
            cases bv with
            | row d et xs =>
              obtain ⟨ρ1, own1, h1, h2, h3, h4, h5⟩ := hr.cutC hs hb (hv : RealC g ρ bl (.vw b c 0 r) u)
              obtain ⟨ρ', own', k1, k2, k3, k4, k5, k6, k7⟩ := ih (shs := shs') h2 h1 (h.mono fun _ _ => Real1.ext (.refl g) h4)
              have hlen : (bl.set b .no ++ [BV.row d et (xs.take r)]).length = bl.length + 1 := by simp
              refine ⟨ρ', own', k1, k2, ⟨RealC.ext (.refl g) k4 h3, k3⟩, h4.trans k4, fun j hj => (k5 j (by omega)).trans (h5 j hj), Nat.le_trans (by omega) k6, fun j m hj hm => ?_⟩
              have := k7 j m (by omega) hm
              unfold lenAt at this ⊢
              rw [List.getElem?_append_left (by simpa using hj)] at this
              by_cases e : b = j
              · subst e
                rw [List.getElem?_set_self (by omega)] at this
                cases this
              · rw [get_ne e] at this
                exact this
            | _ => cases hc1
        · exact plain shs'
      · rename_i _ _ _ _ x shs' v' vs' _ e2
        injection e2 with e2 e3
        subst e2; subst e3
        exact plain shs'
      · exact ⟨ρ, own, hs, hr, ⟨hv, h⟩, .refl, fun _ _ => rfl, Nat.le_refl _, fun _ _ _ h => h⟩
theorem absR_ok {rv : List ResultVar} {np : Nat} {rs : Sch} {st : HSt} {r : HT rs.tr} (h : absR P rv np rs st = some r) {g : Gh} {ρ : Env} {own : Own} {fr : Sl} {w : World} (hr : Rl g ρ st own fr) (hs : St w g own) :
    ∃ vs g1 ρ' own1 str, ResOk P own fr rv vs ∧ g.le g1 ∧ St w g1 own1 ∧ conT rs r = some str ∧ baseSt str = true ∧ Rl (ghB g1.b) ρ' str own1 [(0, tupled vs)] ∧ ∀ j, j < np → ρ' j = ρ j ∧ ∀ (bv : BV) (m : Nat), str.bl[j]? = some bv → bv.len = some m → lenAt st.bl j = some m := by
  unfold absR at h
  split at h
  · rename_i l hl
    split at h
    · rename_i s hsx
      split at h
      · rename_i st' hc
        obtain ⟨hk, h⟩ := condS h
        simp only [Bool.and_eq_true] at hk
        obtain ⟨hk, hb, hnp⟩ := hk
        have hnp := Nat.le_of_ble_eq_true hnp
        obtain ⟨vs, h1, h2⟩ := resH_ok (P := P) hr hl
        obtain ⟨ρc, ownc, hsc, hrc, h2c, hxc, hρc, hlc, hlenc⟩ := cutV_ok (shs := resSh rs) (sl := st.sl) hr hs h2
        have hr1 : Rl g ρc ⟨[(0, tupH (cutV (resSh rs) l st.bl).1)], (cutV (resSh rs) l st.bl).2⟩ ownc [(0, tupled vs)] := by
          refine ⟨hrc.len, hrc.blk, fun t sv e => ?_, hrc.gi⟩
          have e : cond (Nat.beq 0 t) (some (tupH (cutV (resSh rs) l st.bl).1)) none = some sv := e
          obtain ⟨e1, e2⟩ := condS e
          injection e2 with e2; subst e2
          have := Nat.eq_of_beq_eq_true e1
          subst this
          exact ⟨_, rfl, tupH_real h2c⟩
        obtain ⟨g1, ρ1, own1, h3, h4, h5, h6, h7⟩ := weaken_sem hsx hc hk hr1 hsc
        refine ⟨vs, g1, envOf s.σ ρ1, own1, st', h1, h3, h4, ?_, hb, baseSt_real hb h5, fun j hj => ?_⟩
        · unfold conT
          rw [pack_un _ h]
          exact hc
        · have : s.σ[j]? = some (some j) := h6 j j (by
            have := sig0_get np 0 j hj
            rw [Nat.zero_add] at this
            rw [List.getElem?_append_left (get_lt this)]
            exact this)
          have hj2 : j < st.bl.length := by omega
          refine ⟨by unfold envOf; rw [sigAt_of this]; exact (h7 j (show j < (cutV (resSh rs) l st.bl).2.length by omega)).trans (hρc j hj2), fun bv m e1 e2 => ?_⟩
          obtain ⟨st2, e3, hsteps, _, _, hbl⟩ := absSt_ok hsx
          rw [hc] at e3; injection e3 with e3; subst e3
          unfold joinChk absChk at hk
          simp only [Bool.and_eq_true] at hk
          obtain ⟨_, _, _, _, hlen⟩ := hk
          obtain ⟨_, bv', h8, _, h9⟩ := simBs_ctx (ρ := ρ1) hbl (Nat.eq_of_beq_eq_true hlen) j j this
          rw [h8] at e1; injection e1 with e1; subst e1
          obtain ⟨bv3, e4, e5⟩ := h9 m e2
          have hj4 : j < (cutV (resSh rs) l st.bl).2.length := by omega
          have hj3 : (cutV (resSh rs) l st.bl).2[j]? = some (cutV (resSh rs) l st.bl).2[j] := List.getElem?_eq_getElem hj4
          obtain ⟨bv4, e6, e7, _⟩ := hsteps.grow.len hj3
          rw [e4] at e6; injection e6 with e6; subst e6
          refine hlenc j m hj2 ?_
          unfold lenAt
          rw [hj3]
          exact e7.symm.trans e5
      · cases h
    · cases h
  · cases h
theorem absA_ok {rv : List ResultVar} {np : Nat} {st : HSt} {g : Gh} {ρ : Env} {own : Own} {fr : Sl} {w : World} (hr : Rl g ρ st own fr) (hs : St w g own) : ∀ {rs : List Sch} {r : ALT rs}, absA P rv np st rs = some r →
    ∃ vs g1 ρ' own1 str, ResOk P own fr rv vs ∧ g.le g1 ∧ St w g1 own1 ∧ altC rs r = some str ∧ baseSt str = true ∧ Rl (ghB g1.b) ρ' str own1 [(0, tupled vs)] ∧ ∀ j, j < np → ρ' j = ρ j ∧ ∀ (bv : BV) (m : Nat), str.bl[j]? = some bv → bv.len = some m → lenAt st.bl j = some m
  | [], r, h => by cases h
  | [s], r, h => absR_ok h hr hs
  | s :: t :: l, r, h => by
    unfold absA at h
    split at h
    · rename_i x hx
      injection h with h; subst h
      exact absR_ok hx hr hs
    · split at h
      · rename_i y hy
        injection h with h; subst h
        exact absA_ok hr hs (rs := t :: l) hy
      · cases h
theorem conL_hole {rn : Nat → Nat} : ∀ {l : List BSh} {ds r : List DV} {m : List BV}, conL (conB rn) l ds = some (m, r) → ∀ x ∈ m, x.isHole = false
  | [], ds, r, m, h, x, hx => by injection h with h; injection h with h1 h2; subst h1; cases hx
  | b :: l, ds, r, m, h, x, hx => by
    unfold conL at h
    split at h
    · rename_i a r1 h1
      split at h
      · rename_i m' r2 h2
        injection h with h; injection h with h3 h4; subst h3
        rcases List.mem_cons.1 hx with rfl | hx
        · cases b <;> simp only [conB] at h1
          · injection h1 with h1; injection h1 with h1 _; subst h1; rfl
          · split at h1
            · injection h1 with h1; injection h1 with h1 _; subst h1; rfl
            · cases h1
          · cases ds with
            | nil => cases h1
            | cons d ds =>
              obtain ⟨dc, dx⟩ := d
              simp only [conB] at h1
              split at h1
              · injection h1 with h1; injection h1 with h1 _; subst h1; rfl
              · cases h1
          · split at h1
            · injection h1 with h1; injection h1 with h1 _; subst h1; rfl
            · cases h1
        · exact conL_hole h2 x hx
      · cases h
    · cases h
theorem conT_known {sc : Sch} {t : HT sc.tr} {st : HSt} (h : conT sc t = some st) {j : Nat} (hj : j < st.bl.length) : Known st.bl j := by
  unfold conT conSt at h
  split at h
  · split at h
    · rename_i b hb
      injection h with h; subst h
      exact ⟨_, List.getElem?_eq_getElem hj, conL_hole hb _ (List.getElem_mem hj)⟩
    · cases h
  · cases h
theorem evF_ok {f : FuncId} {fn : Func} {ps : Sch} {rs : List Sch} {h : HC} (hf : P.funcs[f]? = some fn) (hb : fn.body.isSome = true) (hn : Nat.ble ps.sl.length fn.ntmps = true) : FOk P f ⟨ps, rs, evF S fn ps rs h⟩ := by
  intro t r st0 hrun hcon g ρ own vs hr hlen
  obtain ⟨c, hb⟩ := Option.isSome_iff_exists.1 hb
  have hrun : evF S fn ps rs h t = some r := hrun
  have hcon : conT ps t = some st0 := hcon
  unfold evF at hrun
  rw [hcon, hb] at hrun
  refine ctr_of fn c fn.ntmps vs hf hb rfl (by rw [hlen]; exact hn) ?_
  have hk0 : ∀ j, j < st0.bl.length → Known st0.bl j := fun j hj => conT_known hcon hj
  refine evC_ok c (A := ⟨st0.bl.length, ρ, lenAt st0.bl⟩) (g0 := g) hrun (fun e st' h' => ?_) g ρ own (argS 0 vs) (.refl _) (fun j hj => ⟨rfl, hk0 j hj, fun bv m e1 e2 => by show lenAt st0.bl j = some m; unfold lenAt; rw [e1]; exact e2⟩) hr
  intro g1 ρ1 own1 fr1 hg hA hr1 a w hf hs
  have : absA P fn.results.toList st0.bl.length st' rs = some r ∧ (e = .normal ∨ e = .ret) := by
    cases e <;> first | exact ⟨h', .inl rfl⟩ | exact ⟨h', .inr rfl⟩ | cases h'
  obtain ⟨h', he⟩ := this
  obtain ⟨vs', g2, ρ', own2, str, h1, h2, h3, h4, h5, h6, h7⟩ := absA_ok hr1 hs h'
  have hfin : RetR g (fun v ψ o => ∃ str ρ', altC rs r = some str ∧ baseSt str = true ∧ Rl (ghB ψ) ρ' str o [(0, v)] ∧ ∀ j, j < st0.bl.length → ρ' j = ρ j ∧ ∀ (bv : BV) (m : Nat), str.bl[j]? = some bv → bv.len = some m → lenAt st0.bl j = some m) (.returned (tupled vs')) w :=
    ⟨_, g2, own2, rfl, hg.trans h2, h3, str, ρ', h4, h5, h6, fun j hj => ⟨((h7 j hj).1).trans (hA j hj).1, fun bv m e1 e2 => by
      obtain ⟨bv', e3, e4⟩ := lenAt_some ((h7 j hj).2 bv m e1 e2)
      exact (hA j hj).2.2 bv' m e3 e4⟩⟩
  rcases he with rfl | rfl
  · exact ⟨hf.defers, _, run_results (by simp) h1 hf hs.has, hfin⟩
  · exact ⟨hf.defers, _, run_results (by simp) h1 hf hs.has, hfin⟩
end
end Go.Proofs.YtpleflcfaecojaaGreat
