/-
The third engine, part 15: calls of functions that are told. Conditions: each lemma's own.
-/
import Derived.Test.YtpleflcfaecojaaGreatH14
namespace Go.Proofs.YtpleflcfaecojaaGreat
set_option linter.unusedVariables false
set_option linter.unusedSimpArgs false
open Go.RowKit
def renC (rn : Nat → Nat) : CV → CV
  | .ptr b o => .ptr (rn b) o
  | .own b => .own (rn b)
  | .cap f c => .cap (renC rn f) (renC rn c)
  | .ifc t c => .ifc t (renC rn c)
  | c => c
def ren1 (rn : Nat → Nat) : V1 → V1
  | .c x => .c (renC rn x)
  | .agg l => .agg (l.map (renC rn))
def renS (rn : Nat → Nat) : SV → SV
  | .v x => .v (ren1 rn x)
  | .tup l => .tup (l.map (ren1 rn))
  | x => x
def renB (rn : Nat → Nat) : BV → BV
  | .cells t l => .cells t (l.map (renC rn))
  | x => x
structure RenOk (rn : Nat → Nat) (ρ : Env) (bl : List BV) (ρ' : Env) (bl' : List BV) : Prop where
  at_ : ∀ (j : Nat) (bv : BV), bl[j]? = some bv → bv.owned = true → ρ' (rn j) = ρ j ∧ ∃ bv' : BV, bl'[rn j]? = some bv' ∧ bv'.isHole = false ∧ bv'.len = bv.len
section
variable {rn : Nat → Nat} {ρ ρ' : Env} {bl bl' : List BV} {ψ : Psi} {g : Gh}
theorem refOk_at {b : Nat} (h : refOk bl b = true) : ∃ bv, bl[b]? = some bv ∧ bv.owned = true := by
  unfold refOk at h
  split at h
  · rename_i bv e; exact ⟨bv, e, h⟩
  · cases h
theorem renC_real (hR : RenOk rn ρ bl ρ' bl') (hψ : ψ.le g.b) : ∀ {x : CV} {v : Value}, baseC bl x = true → RealC (ghB ψ) ρ bl x v → RealC g ρ' bl' (renC rn x) v
  | .int _ _, _, _, h => h
  | .bool _, _, _, h => h
  | .str _, _, _, h => h
  | .k _, _, _, h => h
  | .ptr b o, v, hb, ⟨_, a, ha, hv⟩ => by
    obtain ⟨bv, e1, e2⟩ := refOk_at hb
    obtain ⟨h1, bv', h2, h3, _⟩ := hR.at_ b bv e1 e2
    exact ⟨⟨bv', h2, h3⟩, a, by rw [h1]; exact ha, hv⟩
  | .own b, v, hb, ⟨_, n, hv, hl⟩ => by
    obtain ⟨bv, e1, e2⟩ := refOk_at hb
    obtain ⟨h1, bv', h2, h3, h4⟩ := hR.at_ b bv e1 e2
    refine ⟨⟨bv', h2, h3⟩, n, by rw [h1]; exact hv, fun bv2 m e3 e4 => ?_⟩
    rw [h2] at e3; injection e3 with e3; subst e3
    exact hl bv m e1 (h4.symm.trans e4)
  | .ro _ _ true, v, _, ⟨A, cap, hv, ha⟩ => ⟨A, cap, hv, Arr.mono ha hψ⟩
  | .fn _, _, _, h => h
  | .cap f c, _, hb, ⟨f0, caps, vc, h1, h2, h3⟩ => by
    simp only [baseC, Bool.and_eq_true] at hb
    exact ⟨f0, caps, vc, renC_real hR hψ hb.1 h1, renC_real hR hψ hb.2 h2, h3⟩
  | .ifc t c, _, hb, ⟨u, h1, h2⟩ => ⟨u, renC_real hR hψ (x := c) hb h1, h2⟩
theorem all2_map {α β γ : Type} {f : α → β} {R : β → γ → Prop} : ∀ {l : List α} {m : List γ}, All2 (fun x y => R (f x) y) l m → All2 R (l.map f) m
  | [], [], _ => trivial
  | _ :: _, _ :: _, h => ⟨h.1, all2_map h.2⟩
  | [], _ :: _, h => h.elim
  | _ :: _, [], h => h.elim
theorem ren1_real (hR : RenOk rn ρ bl ρ' bl') (hψ : ψ.le g.b) {x : V1} {v : Value} (hb : base1 bl x = true) (h : Real1 (ghB ψ) ρ bl x v) : Real1 g ρ' bl' (ren1 rn x) v := by
  cases x with
  | c x => exact renC_real hR hψ hb h
  | agg l =>
    obtain ⟨cs, e, h⟩ := h
    exact ⟨cs, e, all2_map (allB_all2 (p := baseC bl) (R := RealC (ghB ψ) ρ bl) (S := fun x y => RealC g ρ' bl' (renC rn x) y) (fun _ _ h1 h2 => renC_real hR hψ h1 h2) hb h)⟩
theorem renS_real (hR : RenOk rn ρ bl ρ' bl') (hψ : ψ.le g.b) {x : SV} {v : Value} (hb : baseS bl x = true) (h : RealS (ghB ψ) ρ bl x v) : RealS g ρ' bl' (renS rn x) v := by
  cases x with
  | v x => exact ren1_real hR hψ hb h
  | tup l =>
    obtain ⟨cs, e, h⟩ := h
    exact ⟨cs, e, all2_map (allB_all2 (p := base1 bl) (R := Real1 (ghB ψ) ρ bl) (S := fun x y => Real1 g ρ' bl' (ren1 rn x) y) (fun _ _ h1 h2 => ren1_real hR hψ h1 h2) hb h)⟩
  | und => cases hb
  | any => trivial
theorem renB_real (hR : RenOk rn ρ bl ρ' bl') (hψ : ψ.le g.b) {bv : BV} {k : Option Bk} {e : Option Addr × Nat} (hb : baseB bl bv = true) (h : BlkR (ghB ψ) ρ bl k e bv) : BlkR g ρ' bl' k e (renB rn bv) := by
  cases bv with
  | hole => cases hb
  | no => exact h
  | cells t l =>
    obtain ⟨b, cs, h1, h2, h3⟩ := h
    exact ⟨b, cs, h1, h2, all2_map (allB_all2 (p := baseC bl) (R := RealC (ghB ψ) ρ bl) (S := fun x y => RealC g ρ' bl' (renC rn x) y) (fun _ _ h1 h2 => renC_real hR hψ h1 h2) hb h3)⟩
  | row c et xs => exact Buf.mono h hψ
  | fz c xs => cases hb
  | lent l => cases hb
theorem renB_len (bv : BV) : (renB rn bv).len = bv.len := by cases bv <;> rfl
theorem renB_hole (bv : BV) : (renB rn bv).isHole = bv.isHole := by cases bv <;> rfl
end
theorem setUpd_len : ∀ (L : List (Nat × BV)) (bl : List BV), (setUpd bl L).length = bl.length
  | [], _ => rfl
  | (b, v) :: L, bl => by rw [setUpd, setUpd_len L, List.length_set]
theorem setUpd_out : ∀ {L : List (Nat × BV)} {bl : List BV} {i : Nat}, (∀ p ∈ L, p.1 ≠ i) → (setUpd bl L)[i]? = bl[i]?
  | [], _, _, _ => rfl
  | (b, v) :: L, bl, i, h => by
    rw [setUpd, setUpd_out fun p hp => h p (List.mem_cons_of_mem _ hp), get_ne (h (b, v) (List.mem_cons_self ..))]
theorem setUpd_in : ∀ {L : List (Nat × BV)} {bl : List BV} {i : Nat} {v : BV}, (i, v) ∈ L → (L.map Prod.fst).Nodup → i < bl.length → (setUpd bl L)[i]? = some v
  | [], _, _, _, h, _, _ => by cases h
  | (b, u) :: L, bl, i, v, h, hn, hl => by
    simp only [List.map_cons, List.nodup_cons] at hn
    rw [setUpd]
    rcases List.mem_cons.1 h with e | h
    · injection e with e1 e2; subst e1; subst e2
      rw [setUpd_out fun p hp e => hn.1 (by rw [← e]; exact List.mem_map_of_mem hp)]
      simp [List.getElem?_set, hl]
    · exact setUpd_in h hn.2 (by rw [List.length_set]; exact hl)
theorem setNew_len : ∀ (l : List BV) (bl : List BV) (f : Nat), (setNew bl f l).length = bl.length
  | [], _, _ => rfl
  | v :: l, bl, f => by rw [setNew, setNew_len l, List.length_set]
theorem setNew_out : ∀ {l : List BV} {bl : List BV} {f i : Nat}, (i < f ∨ f + l.length ≤ i) → (setNew bl f l)[i]? = bl[i]?
  | [], _, _, _, _ => rfl
  | v :: l, bl, f, i, h => by
    rw [List.length_cons] at h
    rw [setNew, setNew_out (by omega), get_ne (by omega)]
theorem setNew_in : ∀ {l : List BV} {bl : List BV} {f m : Nat} {v : BV}, l[m]? = some v → f + l.length ≤ bl.length → (setNew bl f l)[f + m]? = some v
  | [], _, _, _, _, h, _ => by simp at h
  | u :: l, bl, f, 0, v, h, hl => by
    simp at h; subst h
    rw [List.length_cons] at hl
    rw [setNew, setNew_out (.inl (by omega)), Nat.add_zero]
    simp [List.getElem?_set]; omega
  | u :: l, bl, f, m + 1, v, h, hl => by
    rw [List.length_cons] at hl
    rw [setNew, show f + (m + 1) = f + 1 + m by omega]
    exact setNew_in (by simpa using h) (by rw [List.length_set]; omega)
def fnOf : CV → Option (FuncId × List CV)
  | .fn f => some (f, [])
  | .cap g c => match fnOf g with | some (f, l) => some (f, l ++ [c]) | none => none
  | _ => none
def evL (sl : List (Nat × SV)) : List Operand → Option (List SV)
  | [] => some []
  | x :: l => match evH sl x, evL sl l with | some v, some m => some (v :: m) | _, _ => none
structure Cand where
  S : FS
  s : AS
  st0 : HSt
  t : HT S.ps.tr
def mthOf (P : Program) (t : TypeId) (name : String) : Option FuncId := match P.info? t, P.underlying t with
  | some i, some (.pointer _) => (match i.methods.find? (·.name == name) with
    | some m => (match m.path.toList, m.func with | [], some (f, true) => some f | _, _ => none)
    | none => none)
  | _, _ => none
def candOf (asl : List (Nat × SV)) (blm : List BV) (S : FS) : Option Cand := match Nat.beq S.ps.sl.length asl.length && isArgs 0 S.ps.sl, absSt true S.ps (nones S.ps.bl.length) ⟨asl, blm⟩ with
  | true, some s => (match conSt id S.ps s.ds with
    | some st0 => (match absChk s st0.bl && Nat.beq s.bl.length blm.length, pack S.ps.tr s.ds with
      | true, some t => some ⟨S, s, st0, t⟩
      | _, _ => none)
    | none => none)
  | _, _ => none
def firstC (asl : List (Nat × SV)) (blm : List BV) : List FS → Option Cand
  | [] => none
  | S :: l => match candOf asl blm S with | some c => some c | none => firstC asl blm l
def rnOf (np f : Nat) (σ : List (Option Nat)) (j : Nat) : Nat := cond (Nat.blt j np) (match sigAt σ j with | some i => i | none => 0) (f + (j - np))
def updL (rn : Nat → Nat) (σ : List (Option Nat)) : Nat → List BV → List BV → List (Nat × BV)
  | j, b0 :: l, b :: m => match b0.owned, sigAt σ j with
    | true, some i => (i, renB rn b) :: updL rn σ (j + 1) l m
    | _, _ => updL rn σ (j + 1) l m
  | _, _, _ => []
def callE (f : Nat) (c : Cand) (str : HSt) (v : SV) : HE :=
  let rn := rnOf c.st0.bl.length f c.s.σ
  ⟨renS rn v, updL rn c.s.σ 0 c.st0.bl str.bl, (str.bl.drop c.st0.bl.length).map (renB rn)⟩
def refC : CV → List Nat
  | .ptr b _ => [b]
  | .own b => [b]
  | .eo b _ _ _ => [b]
  | .vw b _ _ _ => [b]
  | .cap f c => refC f ++ refC c
  | .ifc _ c => refC c
  | _ => []
def refs1 : V1 → List Nat
  | .c x => refC x
  | .agg l => l.flatMap refC
def refsS : SV → List Nat
  | .v x => refs1 x
  | .tup l => l.flatMap refs1
  | _ => []
def refsB : BV → List Nat
  | .cells _ l => l.flatMap refC
  | .lent l => l.flatMap refC
  | _ => []
def reachB (bl : List BV) : Nat → List Nat → List Nat → List Nat
  | 0, _, seen => seen
  | _ + 1, [], seen => seen
  | d + 1, b :: todo, seen => cond (natMem b seen) (reachB bl d todo seen) (match bl[b]? with
    | some bv => reachB bl d (refsB bv ++ todo) (b :: seen)
    | none => reachB bl d todo seen)
def frzAll : List Nat → Tr → Tr
  | [], k => k
  | b :: l, k => .frz b (frzAll l k)
def ownC : List (Option Nat) → List BV → Bool
  | x :: is, b :: l => (!b.owned || x.isSome) && ownC is l
  | _, _ => true
def altT : (l : List Sch) → ALT l → (HSt → Tr) → Tr
  | [], _, _ => .no
  | [s], x, k => match conT s x with | some st => k st | none => .no
  | s :: t :: l, x, k => .alt x (fun a => match conT s a with | some st => k st | none => .no) (fun b => altT (t :: l) b k)
def callN (f m : Nat) (c : Cand) : Tr := .bnd (c.S.run c.t) fun r => altT c.S.rs r fun str => (match getH str.sl 0, Nat.ble c.st0.bl.length str.bl.length && (Nat.ble (str.bl.length - c.st0.bl.length) m && ownC (ownIds c.s.σ 0 c.st0.bl) str.bl) with
    | some v, true => .done (callE f c str v)
    | _, _ => .no)
def callT (P : Program) (tbl : FuncId → List FS) (fr m : Nat) (fn : FuncId) (uav : List SV) : Tr := cond (enters P fn) (
      let asl := argH 0 uav
      let ids := fun bl => reachB bl 1000 (uav.flatMap refsS) []
      .sub ids fun blm => match firstC asl blm (tbl fn) with
        | some c => (match c.s.fl with
          | [] => callN fr m c
          | fl => frzAll fl (.sub ids fun blm2 => match firstC asl blm2 (tbl fn) with
            | some c2 => (match c2.s.fl with | [] => callN fr m c2 | _ => .no)
            | none => .no))
        | none => .no) .no
def tCall (P : Program) (tbl : FuncId → List FS) (sl : List (Nat × SV)) (fr m : Nat) (x : Operand) (args : List Operand) : Tr := match evH sl x, evL sl args with
  | some (.v (.c fv)), some avs => (match fnOf fv with
    | some (fn, caps) => callT P tbl fr m fn (avs ++ caps.map vC)
    | none => .no)
  | _, _ => .no
def tInv (P : Program) (tbl : FuncId → List FS) (sl : List (Nat × SV)) (fr m : Nat) (x : Operand) (name : String) (args : List Operand) : Tr := match evH sl x, evL sl args with
  | some (.v (.c (.ifc t c))), some avs => (match mthOf P t name with
    | some fn => callT P tbl fr m fn (vC c :: avs)
    | none => .no)
  | _, _ => .no
section
variable {P : Program} {n : Nat} {ty : TypeId} {sl : List (Nat × SV)} {bl bl' : List BV} {v : SV} {f : Nat} {g : Gh} {ρ : Env} {own : Own} {fr : Sl}
theorem altT_told : ∀ {l : List Sch} {x : ALT l} {k : HSt → Tr}, Told f (altT l x k) bl bl' v → ∃ st, altC l x = some st ∧ Told f (k st) bl bl' v
  | [], _, _, h => h.elim
  | [s], x, k, h => by
    unfold altT at h
    split at h
    · rename_i st hst; exact ⟨st, hst, h⟩
    · exact h.elim
  | s :: t :: l, x, k, h => by
    unfold altT at h
    rcases h with ⟨a, rfl, h⟩ | ⟨b, rfl, h⟩
    · dsimp only at h
      split at h
      · rename_i st hst; exact ⟨st, hst, h⟩
      · exact h.elim
    · exact altT_told (l := t :: l) h
theorem fnOf_real : ∀ {c : CV} {fn : FuncId} {caps : List CV} {v : Value}, fnOf c = some (fn, caps) → RealC g ρ bl c v → ∃ cs, v = .func (.func fn) #[] cs.toArray ∧ All2 (RealC g ρ bl) caps cs
  | .fn f0, fn, caps, v, h, hr => by
    injection h with h; injection h with h1 h2; subst h1; subst h2
    exact ⟨[], hr, trivial⟩
  | .cap f0 c, fn, caps, v, h, hr => by
    unfold fnOf at h
    split at h
    · rename_i f1 l hl
      injection h with h; injection h with h1 h2; subst h1; subst h2
      obtain ⟨fx, cx, vc, h3, h4, rfl⟩ := hr
      obtain ⟨cs, e, h5⟩ := fnOf_real hl h3
      injection e with e1 _ e2
      subst e1; subst e2
      exact ⟨cs ++ [vc], by simp, All2.app (l2 := [c]) (m2 := [vc]) ⟨h4, trivial⟩ h5⟩
    · cases h
theorem evL_real (hr : Rl g ρ ⟨sl, bl⟩ own fr) : ∀ {l : List Operand} {m : List SV}, evL sl l = some m → ∃ vs, l.map (evS fr) = vs.map some ∧ All2 (RealS g ρ bl) m vs
  | [], m, h => by injection h with h; subst h; exact ⟨[], rfl, trivial⟩
  | x :: l, m, h => by
    unfold evL at h
    split at h
    · rename_i u k h1 h2
      injection h with h; subst h
      obtain ⟨w, h3, h4⟩ := evH_real hr h1
      obtain ⟨vs, h5, h6⟩ := evL_real hr h2
      exact ⟨w :: vs, by rw [List.map_cons, List.map_cons, h3, h5], h4, h6⟩
    · cases h
theorem argH_slot : ∀ {svs : List SV} {vs : List Value} {i t : Nat} {s : SV}, All2 (RealS g ρ bl) svs vs → getH (argH i svs) t = some s → ∃ v, getS (argS i vs) t = some v ∧ RealS g ρ bl s v
  | [], _, _, _, _, _, h => by cases h
  | s0 :: svs, v0 :: vs, i, t, s, hr, h => by
    simp only [argH, getH] at h
    simp only [argS, getS]
    cases hb : Nat.beq i t with
    | true => rw [hb] at h; injection h with h; subst h; exact ⟨v0, rfl, hr.1⟩
    | false => rw [hb] at h; exact argH_slot hr.2 h
  | _ :: _, [], _, _, _, hr, _ => hr.elim
theorem argH_len : ∀ (i : Nat) (l : List SV), (argH i l).length = l.length
  | _, [] => rfl
  | i, x :: l => by simp [argH, argH_len (i + 1) l]
end
end Go.Proofs.YtpleflcfaecojaaGreat
