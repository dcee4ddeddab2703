/-
The third engine, part 15: calls of functions that are told. Conditions: each lemma's own.
-/
import Derived.Test.YtpglaekodahcoaaGreatDoorM2
import Derived.Laws.Tables
import Derived.ArgAppend
import Derived.Lib.AppendStr
import Derived.Laws.IdiomStrings
import Derived.Test.YtpglaekodahcoaaGreatDoorProg
import Derived.Lib.Bytealg
import Derived.Lib.Walk
import Derived.Lib.Strings
import Derived.WalkKit
import Derived.Laws.Strings3
import Derived.BigCall
import Derived.Shelf.Strings.OnBuilder
namespace Go.Proofs.YtpglaekodahcoaaGreatDoor
set_option linter.unusedVariables false
set_option linter.unusedSimpArgs false
open Go.RowKit
def renC (rn : Nat → Nat) : CV → CV
  | .ptr b o => .ptr (rn b) o
  | .own b => .own (rn b)
  | .mp b => .mp (rn b)
  | .cap f c => .cap (renC rn f) (renC rn c)
  | .ifc t c => .ifc t (renC rn c)
  | c => c
def ren1 (rn : Nat → Nat) : V1 → V1
  | .c x => .c (renC rn x)
  | .agg l => .agg (l.map (renC rn))
def renS (rn : Nat → Nat) : SV → SV
  | .v x => .v (ren1 rn x)
  | .tup l => .tup (l.map (ren1 rn))
  | x => x
def renB (rn : Nat → Nat) : BV → BV
  | .cells t l => .cells t (l.map (renC rn))
  | x => x
structure RenOk (rn : Nat → Nat) (ρ : Env) (bl : List BV) (ρ' : Env) (bl' : List BV) : Prop where
  at_ : ∀ (j : Nat) (bv : BV), bl[j]? = some bv → bv.owned = true → ρ' (rn j) = ρ j ∧ ∃ bv' : BV, bl'[rn j]? = some bv' ∧ bv'.isHole = false ∧ bv'.len = bv.len
section
variable {rn : Nat → Nat} {ρ ρ' : Env} {bl bl' : List BV} {ψ : Psi} {g : Gh}
theorem refOk_at {b : Nat} (h : refOk bl b = true) : ∃ bv, bl[b]? = some bv ∧ bv.owned = true := by
  unfold refOk at h
  split at h
  · rename_i bv e; exact ⟨bv, e, h⟩
  · cases h
theorem renC_real (hR : RenOk rn ρ bl ρ' bl') (hψ : ψ.le g.b) : ∀ {x : CV} {v : Value}, baseC bl x = true → RealC (ghB ψ) ρ bl x v → RealC g ρ' bl' (renC rn x) v
  | .int _ _, _, _, h => h
  | .bool _, _, _, h => h
  | .str _, _, _, h => h
  | .k _, _, _, h => h
  | .ptr b o, v, hb, ⟨_, a, ha, hv⟩ => by
    obtain ⟨bv, e1, e2⟩ := refOk_at hb
    obtain ⟨h1, bv', h2, h3, _⟩ := hR.at_ b bv e1 e2
    exact ⟨⟨bv', h2, h3⟩, a, by rw [h1]; exact ha, hv⟩
  | .own b, v, hb, ⟨_, n, hv, hl⟩ => by
    obtain ⟨bv, e1, e2⟩ := refOk_at hb
    obtain ⟨h1, bv', h2, h3, h4⟩ := hR.at_ b bv e1 e2
    refine ⟨⟨bv', h2, h3⟩, n, by rw [h1]; exact hv, fun bv2 m e3 e4 => ?_⟩
    rw [h2] at e3; injection e3 with e3; subst e3
    exact hl bv m e1 (h4.symm.trans e4)
  | .mp b, v, hb, ⟨_, k, ha, hv⟩ => by
    obtain ⟨bv, e1, e2⟩ := refOk_at hb
    obtain ⟨h1, bv', h2, h3, _⟩ := hR.at_ b bv e1 e2
    exact ⟨⟨bv', h2, h3⟩, k, by rw [h1]; exact ha, hv⟩
  | .ro _ _ true, v, _, ⟨A, cap, hv, ha⟩ => ⟨A, cap, hv, Arr.mono ha hψ⟩
  | .fn _, _, _, h => h
  | .cap f c, _, hb, ⟨f0, caps, vc, h1, h2, h3⟩ => by
    simp only [baseC, Bool.and_eq_true] at hb
    exact ⟨f0, caps, vc, renC_real hR hψ hb.1 h1, renC_real hR hψ hb.2 h2, h3⟩
  | .ifc t c, _, hb, ⟨u, h1, h2⟩ => ⟨u, renC_real hR hψ (x := c) hb h1, h2⟩
theorem all2_map {α β γ : Type} {f : α → β} {R : β → γ → Prop} : ∀ {l : List α} {m : List γ}, All2 (fun x y => R (f x) y) l m → All2 R (l.map f) m
  | [], [], _ => trivial
  | _ :: _, _ :: _, h => ⟨h.1, all2_map h.2⟩
  | [], _ :: _, h => h.elim
  | _ :: _, [], h => h.elim
theorem ren1_real (hR : RenOk rn ρ bl ρ' bl') (hψ : ψ.le g.b) {x : V1} {v : Value} (hb : base1 bl x = true) (h : Real1 (ghB ψ) ρ bl x v) : Real1 g ρ' bl' (ren1 rn x) v := by
  cases x with
  | c x => exact renC_real hR hψ hb h
  | agg l =>
    obtain ⟨cs, e, h⟩ := h
    exact ⟨cs, e, all2_map (allB_all2 (p := baseC bl) (R := RealC (ghB ψ) ρ bl) (S := fun x y => RealC g ρ' bl' (renC rn x) y) (fun _ _ h1 h2 => renC_real hR hψ h1 h2) hb h)⟩
theorem renS_real (hR : RenOk rn ρ bl ρ' bl') (hψ : ψ.le g.b) {x : SV} {v : Value} (hb : baseS bl x = true) (h : RealS (ghB ψ) ρ bl x v) : RealS g ρ' bl' (renS rn x) v := by
  cases x with
  | v x => exact ren1_real hR hψ hb h
  | tup l =>
    obtain ⟨cs, e, h⟩ := h
    exact ⟨cs, e, all2_map (allB_all2 (p := base1 bl) (R := Real1 (ghB ψ) ρ bl) (S := fun x y => Real1 g ρ' bl' (ren1 rn x) y) (fun _ _ h1 h2 => ren1_real hR hψ h1 h2) hb h)⟩
  | und => cases hb
  | any => trivial
theorem renB_real (hR : RenOk rn ρ bl ρ' bl') (hψ : ψ.le g.b) {bv : BV} {k : Option Bk} {e : Option Addr × Nat} (hb : baseB bl bv = true) (h : BlkR (ghB ψ) ρ bl k e bv) : BlkR g ρ' bl' k e (renB rn bv) := by
  cases bv with
  | hole => cases hb
  | no => exact h
  | cells t l =>
    obtain ⟨b, cs, h1, h2, h3⟩ := h
    exact ⟨b, cs, h1, h2, all2_map (allB_all2 (p := baseC bl) (R := RealC (ghB ψ) ρ bl) (S := fun x y => RealC g ρ' bl' (renC rn x) y) (fun _ _ h1 h2 => renC_real hR hψ h1 h2) hb h3)⟩
  | row c et xs => exact Buf.mono h hψ
  | fz c xs => cases hb
  | lent l => cases hb
  | map c xs =>
    obtain ⟨b, cs, h1, h2, h3⟩ := h
    exact ⟨b, cs, h1, h2, h3.mono hψ⟩
theorem renB_len (bv : BV) : (renB rn bv).len = bv.len := by cases bv <;> rfl
theorem renB_hole (bv : BV) : (renB rn bv).isHole = bv.isHole := by cases bv <;> rfl
end
theorem setUpd_len : ∀ (L : List (Nat × BV)) (bl : List BV), (setUpd bl L).length = bl.length
  | [], _ => rfl
  | (b, v) :: L, bl => by rw [setUpd, setUpd_len L, List.length_set]
theorem setUpd_out : ∀ {L : List (Nat × BV)} {bl : List BV} {i : Nat}, (∀ p ∈ L, p.1 ≠ i) → (setUpd bl L)[i]? = bl[i]?
  | [], _, _, _ => rfl
  | (b, v) :: L, bl, i, h => by
    rw [setUpd, setUpd_out fun p hp => h p (List.mem_cons_of_mem _ hp), get_ne (h (b, v) (List.mem_cons_self ..))]
theorem setUpd_in : ∀ {L : List (Nat × BV)} {bl : List BV} {i : Nat} {v : BV}, (i, v) ∈ L → (L.map Prod.fst).Nodup → i < bl.length → (setUpd bl L)[i]? = some v
  | [], _, _, _, h, _, _ => by cases h
  | (b, u) :: L, bl, i, v, h, hn, hl => by
    simp only [List.map_cons, List.nodup_cons] at hn
    rw [setUpd]
    rcases List.mem_cons.1 h with e | h
    · injection e with e1 e2; subst e1; subst e2
      rw [setUpd_out fun p hp e => hn.1 (by rw [← e]; exact List.mem_map_of_mem hp)]
      simp [List.getElem?_set, hl]
    · exact setUpd_in h hn.2 (by rw [List.length_set]; exact hl)
theorem setNew_len : ∀ (l : List BV) (bl : List BV) (f : Nat), (setNew bl f l).length = bl.length
  | [], _, _ => rfl
  | v :: l, bl, f => by rw [setNew, setNew_len l, List.length_set]
theorem setNew_out : ∀ {l : List BV} {bl : List BV} {f i : Nat}, (i < f ∨ f + l.length ≤ i) → (setNew bl f l)[i]? = bl[i]?
  | [], _, _, _, _ => rfl
  | v :: l, bl, f, i, h => by
    rw [List.length_cons] at h
    rw [setNew, setNew_out (by omega), get_ne (by omega)]
theorem setNew_in : ∀ {l : List BV} {bl : List BV} {f m : Nat} {v : BV}, l[m]? = some v → f + l.length ≤ bl.length → (setNew bl f l)[f + m]? = some v
  | [], _, _, _, _, h, _ => by simp at h
  | u :: l, bl, f, 0, v, h, hl => by
    simp at h; subst h
    rw [List.length_cons] at hl
    rw [setNew, setNew_out (.inl (by omega)), Nat.add_zero]
    simp [List.getElem?_set]; omega
  | u :: l, bl, f, m + 1, v, h, hl => by
    rw [List.length_cons] at hl
    rw [setNew, show f + (m + 1) = f + 1 + m by omega]
    exact setNew_in (by simpa using h) (by rw [List.length_set]; omega)
def fnOf : CV → Option (FuncId × List CV)
  | .fn f => some (f, [])
  | .cap g c => match fnOf g with | some (f, l) => some (f, l ++ [c]) | none => none
  | _ => none
def evL (sl : List (Nat × SV)) : List Operand → Option (List SV)
  | [] => some []
  | x :: l => match evH sl x, evL sl l with | some v, some m => some (v :: m) | _, _ => none
structure Cand where
  S : FSp
  s : AS
  st0 : HSt
  t : HT S.ps.tr
def mthOf (P : Program) (t : TypeId) (name : String) : Option FuncId := match P.info? t, P.underlying t with
  | some i, some (.pointer _) => (match i.methods.find? (·.name == name) with
    | some m => (match m.path.toList, m.func with | [], some (f, true) => some f | _, _ => none)
    | none => none)
  | _, _ => none
def candOf (asl : List (Nat × SV)) (blm : List BV) (S : FSp) : Option Cand := match Nat.beq S.ps.sl.length asl.length && isArgs 0 S.ps.sl, absSt true S.ps (nones S.ps.bl.length) ⟨asl, blm⟩ with
  | true, some s => (match conSt id S.ps s.ds with
    | some st0 => (match absChk s st0.bl && Nat.beq s.bl.length blm.length, pack S.ps.tr s.ds with
      | true, some t => some ⟨S, s, st0, t⟩
      | _, _ => none)
    | none => none)
  | _, _ => none
def firstC (asl : List (Nat × SV)) (blm : List BV) : List FSp → Option Cand
  | [] => none
  | S :: l => match candOf asl blm S with | some c => some c | none => firstC asl blm l
def rnOf (np f : Nat) (σ : List (Option Nat)) (j : Nat) : Nat := cond (Nat.blt j np) (match sigAt σ j with | some i => i | none => 0) (f + (j - np))
def updL (rn : Nat → Nat) (σ : List (Option Nat)) : Nat → List BV → List BV → List (Nat × BV)
  | j, b0 :: l, b :: m => match b0.owned, sigAt σ j with
    | true, some i => (i, renB rn b) :: updL rn σ (j + 1) l m
    | _, _ => updL rn σ (j + 1) l m
  | _, _, _ => []
def callE (f : Nat) (c : Cand) (str : HSt) (v : SV) : HE :=
  let rn := rnOf c.st0.bl.length f c.s.σ
  ⟨renS rn v, updL rn c.s.σ 0 c.st0.bl str.bl, (str.bl.drop c.st0.bl.length).map (renB rn)⟩
def refC : CV → List Nat
  | .ptr b _ => [b]
  | .own b => [b]
  | .mp b => [b]
  | .sc b _ => [b]
  | .bnd _ c => refC c
  | .eo b _ _ _ => [b]
  | .vw b _ _ _ => [b]
  | .cap f c => refC f ++ refC c
  | .ifc _ c => refC c
  | _ => []
def refs1 : V1 → List Nat
  | .c x => refC x
  | .agg l => l.flatMap refC
def refsS : SV → List Nat
  | .v x => refs1 x
  | .tup l => l.flatMap refs1
  | _ => []
def refsB : BV → List Nat
  | .cells _ l => l.flatMap refC
  | .lent l => l.flatMap refC
  | _ => []
def reachB (bl : List BV) : Nat → List Nat → List Nat → List Nat
  | 0, _, seen => seen
  | _ + 1, [], seen => seen
  | d + 1, b :: todo, seen => cond (natMem b seen) (reachB bl d todo seen) (match bl[b]? with
    | some bv => reachB bl d (refsB bv ++ todo) (b :: seen)
    | none => reachB bl d todo seen)
def frzAll : List Nat → Tr → Tr
  | [], k => k
  | b :: l, k => .frz b (frzAll l k)
def ownC : List (Option Nat) → List BV → Bool
  | x :: is, b :: l => (!b.owned || x.isSome) && ownC is l
  | _, _ => true
def altT : (l : List Sch) → ALT l → (HSt → Tr) → Tr
  | [], _, _ => .no
  | [s], x, k => match conT s x with | some st => k st | none => .no
  | s :: t :: l, x, k => .alt x (fun a => match conT s a with | some st => k st | none => .no) (fun b => altT (t :: l) b k)
def callN (f m : Nat) (c : Cand) : Tr := .bnd (c.S.run c.t) fun r => altT c.S.rs r fun str => (match getH str.sl 0, Nat.ble c.st0.bl.length str.bl.length && (Nat.ble (str.bl.length - c.st0.bl.length) m && ownC (ownIds c.s.σ 0 c.st0.bl) str.bl) with
    | some v, true => .done (callE f c str v)
    | _, _ => .no)
def callT (P : Program) (tbl : FuncId → List FSp) (fr m : Nat) (fn : FuncId) (uav : List SV) : Tr := cond (enters P fn) (
      let asl := argH 0 uav
      let ids := fun bl => reachB bl 1000 (uav.flatMap refsS) []
      .sub ids fun blm => match firstC asl blm (tbl fn) with
        | some c => (match c.s.fl with
          | [] => callN fr m c
          | fl => frzAll fl (.sub ids fun blm2 => match firstC asl blm2 (tbl fn) with
            | some c2 => (match c2.s.fl with | [] => callN fr m c2 | _ => .no)
            | none => .no))
        | none => .no) .no
def tCall (P : Program) (tbl : FuncId → List FSp) (sl : List (Nat × SV)) (fr m : Nat) (x : Operand) (args : List Operand) : Tr := match evH sl x, evL sl args with
  | some (.v (.c (.bnd fn c))), some avs => callT P tbl fr m fn (vC c :: avs)
  | some (.v (.c fv)), some avs => (match fnOf fv with
    | some (fn, caps) => callT P tbl fr m fn (avs ++ caps.map vC)
    | none => .no)
  | _, _ => .no
def tInv (P : Program) (tbl : FuncId → List FSp) (sl : List (Nat × SV)) (fr m : Nat) (x : Operand) (name : String) (args : List Operand) : Tr := match evH sl x, evL sl args with
  | some (.v (.c (.ifc t c))), some avs => (match mthOf P t name with
    | some fn => callT P tbl fr m fn (vC c :: avs)
    | none => .no)
  | _, _ => .no
section
variable {P : Program} {n : Nat} {ty : TypeId} {sl : List (Nat × SV)} {bl bl' : List BV} {v : SV} {f : Nat} {g : Gh} {ρ : Env} {own : Own} {fr : Sl}
theorem altT_told : ∀ {l : List Sch} {x : ALT l} {k : HSt → Tr}, Told f (altT l x k) bl bl' v → ∃ st, altC l x = some st ∧ Told f (k st) bl bl' v
  | [], _, _, h => h.elim
  | [s], x, k, h => by
    unfold altT at h
    split at h
    · rename_i st hst; exact ⟨st, hst, h⟩
    · exact h.elim
  | s :: t :: l, x, k, h => by
    unfold altT at h
    rcases h with ⟨a, rfl, h⟩ | ⟨b, rfl, h⟩
    · dsimp only at h
      split at h
      · rename_i st hst; exact ⟨st, hst, h⟩
      · exact h.elim
    · exact altT_told (l := t :: l) h
theorem fnOf_real : ∀ {c : CV} {fn : FuncId} {caps : List CV} {v : Value}, fnOf c = some (fn, caps) → RealC g ρ bl c v → ∃ cs, v = .func (.func fn) #[] cs.toArray ∧ All2 (RealC g ρ bl) caps cs
  | .fn f0, fn, caps, v, h, hr => by
    injection h with h; injection h with h1 h2; subst h1; subst h2
    exact ⟨[], hr, trivial⟩
  | .cap f0 c, fn, caps, v, h, hr => by
    unfold fnOf at h
    split at h
    · rename_i f1 l hl
      injection h with h; injection h with h1 h2; subst h1; subst h2
      obtain ⟨fx, cx, vc, h3, h4, rfl⟩ := hr
      obtain ⟨cs, e, h5⟩ := fnOf_real hl h3
      injection e with e1 _ e2
      subst e1; subst e2
      exact ⟨cs ++ [vc], by simp, All2.app (l2 := [c]) (m2 := [vc]) ⟨h4, trivial⟩ h5⟩
    · cases h
theorem evL_real (hr : Rl g ρ ⟨sl, bl⟩ own fr) : ∀ {l : List Operand} {m : List SV}, evL sl l = some m → ∃ vs, l.map (evS fr) = vs.map some ∧ All2 (RealS g ρ bl) m vs
  | [], m, h => by injection h with h; subst h; exact ⟨[], rfl, trivial⟩
  | x :: l, m, h => by
    unfold evL at h
    split at h
    · rename_i u k h1 h2
      injection h with h; subst h
      obtain ⟨w, h3, h4⟩ := evH_real hr h1
      obtain ⟨vs, h5, h6⟩ := evL_real hr h2
      exact ⟨w :: vs, by rw [List.map_cons, List.map_cons, h3, h5], h4, h6⟩
    · cases h
theorem argH_slot : ∀ {svs : List SV} {vs : List Value} {i t : Nat} {s : SV}, All2 (RealS g ρ bl) svs vs → getH (argH i svs) t = some s → ∃ v, getS (argS i vs) t = some v ∧ RealS g ρ bl s v
  | [], _, _, _, _, _, h => by cases h
  | s0 :: svs, v0 :: vs, i, t, s, hr, h => by
    simp only [argH, getH] at h
    simp only [argS, getS]
    cases hb : Nat.beq i t with
    | true => rw [hb] at h; injection h with h; subst h; exact ⟨v0, rfl, hr.1⟩
    | false => rw [hb] at h; exact argH_slot hr.2 h
  | _ :: _, [], _, _, _, hr, _ => hr.elim
theorem argH_len : ∀ (i : Nat) (l : List SV), (argH i l).length = l.length
  | _, [] => rfl
  | i, x :: l => by simp [argH, argH_len (i + 1) l]
end
section
variable {P : Program} {n : Nat} {ty : TypeId} {sl : List (Nat × SV)} {bl bl' : List BV} {v : SV} {f : Nat} {g : Gh} {ρ : Env} {own : Own} {fr : Sl}
theorem eff_call {fn : FuncId} {op : Op} {us : List Value} {is : List (Option Nat)} {post : Value → Psi → Own → Prop} (hrun : ∀ (o : Oper) (a : Act) (w : World), o.op = op → Fr n a fr → (execOp a.eval o).run P w = .ok (.enter fn us.toArray) w)
    (hn : (is.filterMap id).Nodup) (hc : ∀ g', g.r.le g'.r → g'.b = g.b → (∀ k, some k ∈ dropIds 0 (is.filterMap id) own → g'.r.m k.g = some k.obj) → Ctr P fn us g' (pickP is own) post) :
    Eff P n g own fr op ty (fun v g' own' => ∃ sel', own' = sel' ++ dropIds 0 (is.filterMap id) own ∧ post v g'.b sel') := by
  intro o a w Q K h1 h2 hf hs h
  have hs' := hs.part hn
  obtain ⟨gl, er, eb, hst0, hl⟩ := hs'.lend
  unfold Oper.wp
  rw [hrun o a w h1 hf]
  simp only [Oper.upon]
  have hnd : (Own.ids (dropIds 0 (is.filterMap id) own)).Nodup := by
    have hn := hs'.nodup
    rw [show Own.ids (pickP is own ++ dropIds 0 (is.filterMap id) own) = Own.ids (pickP is own) ++ Own.ids (dropIds 0 (is.filterMap id) own) from List.filterMap_append] at hn
    exact (List.nodup_append.1 hn).2.1
  refine (hc gl hl eb (fun k hk => by rw [er]; exact addAll_of hnd hk) w hst0).mono fun e w' hp => ?_
  obtain ⟨v, g1, sel', rfl, hle, hst, hpost⟩ := hp
  obtain ⟨g2, e2, hle2, hst2⟩ := hs'.unlend er eb hle hst hl
  exact h v g2 _ w' hle2 hst2 ⟨sel', rfl, by rw [e2]; exact hpost⟩
theorem firstC_mem {asl : List (Nat × SV)} {blm : List BV} {c : Cand} : ∀ {l : List FSp}, firstC asl blm l = some c → ∃ S ∈ l, candOf asl blm S = some c
  | [], h => by cases h
  | S :: l, h => by
    unfold firstC at h
    split at h
    · rename_i c' hc
      injection h with h; subst h
      exact ⟨S, List.mem_cons_self .., hc⟩
    · obtain ⟨S', h1, h2⟩ := firstC_mem h
      exact ⟨S', List.mem_cons_of_mem _ h1, h2⟩
theorem frzAll_told : ∀ {l : List Nat} {k : Tr} {bl : List BV}, Told f (frzAll l k) bl bl' v → ∃ bl1, FrzTo bl bl1 ∧ Told f k bl1 bl' v
  | [], k, bl, h => ⟨bl, .refl, h⟩
  | b :: l, k, bl, h => by
    obtain ⟨bv, fv, e1, e2, h⟩ := h
    cases bv <;> first | (cases e2; done) | skip
    injection e2 with e2; subst e2
    obtain ⟨bl1, h1, h2⟩ := frzAll_told h
    exact ⟨bl1, .step e1 h1, h2⟩
theorem candOf_ok {asl : List (Nat × SV)} {blm : List BV} {S : FSp} {c : Cand} (h : candOf asl blm S = some c) : c.S = S ∧ c.S.ps.sl.length = asl.length ∧ absSt true c.S.ps (nones c.S.ps.bl.length) ⟨asl, blm⟩ = some c.s ∧ conSt id c.S.ps c.s.ds = some c.st0 ∧ absChk c.s c.st0.bl = true ∧ conT c.S.ps c.t = some c.st0 := by
  unfold candOf at h
  split at h
  · rename_i s h1 hs
    split at h
    · rename_i st0 hc
      split at h
      · rename_i t hk hp
        injection h with h; subst h
        simp only [Bool.and_eq_true] at h1 hk
        exact ⟨rfl, Nat.eq_of_beq_eq_true h1.1, hs, hc, hk.1, by unfold conT; rw [pack_un _ hp]; exact hc⟩
      · cases h
    · cases h
  · cases h
theorem ownIds_some {σ : List (Option Nat)} {l : List BV} {j b : Nat} (h : (ownIds σ 0 l)[j]? = some (some b)) : ∃ y, l[j]? = some y ∧ y.owned = true ∧ sigAt σ j = some b := by
  have hlt : j < l.length := by rw [← ownIds_len σ 0 l]; exact get_lt h
  have := ownIds_get σ l 0 j (List.getElem?_eq_getElem hlt)
  rw [h, Nat.zero_add] at this
  injection this with this
  cases hy : l[j].owned with
  | true => rw [hy] at this; exact ⟨_, List.getElem?_eq_getElem hlt, hy, this.symm⟩
  | false => rw [hy] at this; cases this
theorem ownIds_at {σ : List (Option Nat)} {l : List BV} {j b : Nat} {y : BV} (h : l[j]? = some y) (hy : y.owned = true) (hs : sigAt σ j = some b) : (ownIds σ 0 l)[j]? = some (some b) := by
  have := ownIds_get σ l 0 j h
  rw [Nat.zero_add, hy, hs] at this
  exact this
theorem mem_ids {is : List (Option Nat)} {b : Nat} : natMem b (is.filterMap id) = true ↔ ∃ j : Nat, is[j]? = some (some b) := by
  rw [natMem_iff]
  simp only [List.mem_filterMap, id_eq, exists_eq_right]
  exact ⟨fun hb => List.getElem?_of_mem hb, fun ⟨i, hi⟩ => List.mem_of_getElem? hi⟩
theorem updL_mem {rn : Nat → Nat} {σ : List (Option Nat)} : ∀ {l m : List BV} {k : Nat} {p : Nat × BV}, p ∈ updL rn σ k l m → ∃ j b0 b, l[j]? = some b0 ∧ m[j]? = some b ∧ b0.owned = true ∧ sigAt σ (k + j) = some p.1 ∧ p.2 = renB rn b
  | [], _, _, _, h => by cases h
  | _ :: _, [], _, _, h => by cases h
  | b0 :: l, b :: m, k, p, h => by
    unfold updL at h
    split at h
    · rename_i i ho hs
      rcases List.mem_cons.1 h with rfl | h
      · exact ⟨0, b0, b, rfl, rfl, ho, hs, rfl⟩
      · obtain ⟨j, c0, c, h1, h2, h3, h4, h5⟩ := updL_mem h
        exact ⟨j + 1, c0, c, by simpa using h1, by simpa using h2, h3, by rwa [show k + (j + 1) = k + 1 + j by omega], h5⟩
    · obtain ⟨j, c0, c, h1, h2, h3, h4, h5⟩ := updL_mem h
      exact ⟨j + 1, c0, c, by simpa using h1, by simpa using h2, h3, by rwa [show k + (j + 1) = k + 1 + j by omega], h5⟩
theorem updL_at {rn : Nat → Nat} {σ : List (Option Nat)} : ∀ {l m : List BV} {k j i : Nat} {b0 b : BV}, l[j]? = some b0 → m[j]? = some b → b0.owned = true → sigAt σ (k + j) = some i → (i, renB rn b) ∈ updL rn σ k l m
  | [], _, _, _, _, _, _, h, _, _, _ => by simp at h
  | _ :: _, [], _, _, _, _, _, _, h, _, _ => by simp at h
  | c0 :: l, c :: m, k, 0, i, b0, b, h1, h2, h3, h4 => by
    simp at h1 h2; subst h1; subst h2
    unfold updL
    rw [Nat.add_zero] at h4
    rw [h3, h4]
    exact List.mem_cons_self ..
  | c0 :: l, c :: m, k, j + 1, i, b0, b, h1, h2, h3, h4 => by
    have := updL_at (rn := rn) (σ := σ) (k := k + 1) (j := j) (by simpa using h1) (by simpa using h2) h3 (by rwa [show k + 1 + j = k + (j + 1) by omega])
    unfold updL
    split
    · exact List.mem_cons_of_mem _ this
    · exact this
theorem updL_nodup {rn : Nat → Nat} {σ : List (Option Nat)} : ∀ {l m : List BV} {k : Nat}, (∀ a b i, k ≤ a → k ≤ b → (∃ y, l[a - k]? = some y ∧ y.owned = true) → (∃ y, l[b - k]? = some y ∧ y.owned = true) → sigAt σ a = some i → sigAt σ b = some i → a = b) → ((updL rn σ k l m).map Prod.fst).Nodup
  | [], _, _, _ => List.nodup_nil
  | _ :: _, [], _, _ => List.nodup_nil
  | b0 :: l, b :: m, k, h => by
    have ih := updL_nodup (rn := rn) (σ := σ) (l := l) (m := m) (k := k + 1) fun a c i ha hc h1 h2 h3 h4 => by
      refine h a c i (by omega) (by omega) ?_ ?_ h3 h4
      · obtain ⟨y, e1, e2⟩ := h1
        exact ⟨y, by rw [show a - k = (a - (k + 1)) + 1 by omega]; simpa using e1, e2⟩
      · obtain ⟨y, e1, e2⟩ := h2
        exact ⟨y, by rw [show c - k = (c - (k + 1)) + 1 by omega]; simpa using e1, e2⟩
    unfold updL
    split
    · rename_i i ho hs
      refine List.nodup_cons.2 ⟨fun hm => ?_, ih⟩
      obtain ⟨p, hp, e⟩ := List.mem_map.1 hm
      obtain ⟨j, c0, c, h1, h2, h3, h4, _⟩ := updL_mem hp
      have e : p.1 = i := e
      rw [e] at h4
      have := h k (k + 1 + j) i (Nat.le_refl _) (by omega) ⟨b0, by rw [Nat.sub_self]; rfl, ho⟩ ⟨c0, by rw [show k + 1 + j - k = j + 1 by omega]; simpa using h1, h3⟩ hs h4
      omega
    · exact ih
theorem mask_ext {ids : List Nat} : Ext ρ bl ρ (maskB 0 ids bl) := fun b bv e h => by
  have hlt : b < (maskB 0 ids bl).length := by rw [maskB_len]; exact get_lt e
  obtain ⟨bv0, h1, h2⟩ := maskB_get (List.getElem?_eq_getElem hlt)
  rw [e] at h1; injection h1 with h1; subst h1
  refine ⟨rfl, _, List.getElem?_eq_getElem hlt, ?_, fun m hm => ?_⟩
  · rcases h2 with ⟨_, h2⟩ | h2 <;> rw [h2]
    · exact h
    · rfl
  · rcases h2 with ⟨_, h2⟩ | h2 <;> rw [h2] at hm
    · exact hm
    · cases hm
theorem mask_at {ids : List Nat} {b : Nat} {bv : BV} (h : (maskB 0 ids bl)[b]? = some bv) (hn : bv ≠ .no) : bl[b]? = some bv := by
  obtain ⟨bv0, h1, h2⟩ := maskB_get h
  rcases h2 with ⟨_, h2⟩ | h2
  · rw [h2]; exact h1
  · exact absurd h2 hn
theorem absChk_ok {s : AS} {l : List BV} (h : absChk s l = true) : ((ownIds s.σ 0 l).filterMap id).Nodup ∧ rowsB s.bl s.σ 0 l = true ∧ (∀ b, b ∈ s.lt → natMem b ((ownIds s.σ 0 l).filterMap id) = false) ∧ s.σ.length = l.length := by
  unfold absChk at h
  simp only [Bool.and_eq_true] at h
  obtain ⟨h1, h2, h3, h4⟩ := h
  refine ⟨nodupB_ok h1, h2, fun b hb => ?_, Nat.eq_of_beq_eq_true h4⟩
  cases hm : natMem b ((ownIds s.σ 0 l).filterMap id) with
  | false => rfl
  | true =>
    have := List.all_eq_true.1 h3 b (natMem_iff.1 hm)
    rw [natMem_iff.2 hb] at this
    cases this
theorem given_ok {idl : List Nat} {asl : List (Nat × SV)} {us : List Value} {sc : Sch} {m : Nat} {s : AS} {st0 : HSt} {g' : Gh} (hr : Rl g ρ ⟨sl, bl⟩ own fr) (hra : ∀ t sv, getH asl t = some sv → ∃ v, getS (argS 0 us) t = some v ∧ RealS g ρ bl sv v)
    (hab : absSt true sc (nones m) ⟨asl, maskB 0 idl bl⟩ = some s) (hsame : s.bl = maskB 0 idl bl) (hcon : conSt id sc s.ds = some st0) (hchk : absChk s st0.bl = true) (hgr : g.r.le g'.r) (hgb : g'.b = g.b)
    (hlent : ∀ k, some k ∈ dropIds 0 ((ownIds s.σ 0 st0.bl).filterMap id) own → g'.r.m k.g = some k.obj) : Rl g' (envOf s.σ ρ) st0 (pickP (ownIds s.σ 0 st0.bl) own) (argS 0 us) := by
  obtain ⟨st2, e1, _, _, hsl, hbl⟩ := absSt_ok hab
  rw [hcon] at e1; injection e1 with e1; subst e1
  rw [hsame] at hsl hbl
  obtain ⟨hnd, hrows, hlt, hlen⟩ := absChk_ok hchk
  rw [hsame] at hrows
  have hkeep : ∀ b k, b ∈ s.lt → own[b]? = some (some k) → g'.r.m k.g = some k.obj := fun b k hb hk => hlent k (by
    have := dropIds_get (i := 0) (ids := (ownIds s.σ 0 st0.bl).filterMap id) hk
    rw [Nat.zero_add, hlt b hb] at this
    exact List.mem_of_getElem? this)
  have hctx : Ctx s.lt (maskB 0 idl bl).length s.σ (maskB 0 idl bl) ρ g st0.bl (envOf s.σ ρ) g' := by
    refine ⟨hgr, by rw [hgb]; exact .refl _, fun j b e => simBs_ctx hbl hlen j b e, fun b bv hn e => absurd (get_lt e) (by omega), fun b c xs e => ?_, fun b c et xs hb e => ?_⟩
    · obtain ⟨k0, h1, h2⟩ := hr.own_at (mask_at e (by simp))
      exact h2.2
    · obtain ⟨k0, h1, h2⟩ := hr.own_at (mask_at e (by simp))
      exact arrm_of_buf h2 hgb fun b' hb' => hkeep b b' hb (by rw [h1, hb'])
  refine ⟨by simp [pickP, ownIds_len], fun i bv k0 e1 e2 => ?_, fun t sv e => ?_, by rw [hgb]; exact hr.gi⟩
  · have e3 : (pickP (ownIds s.σ 0 st0.bl) own)[i]? = some (match cond bv.owned (sigAt s.σ i) none with | none => none | some b => (own[b]?).join) := by
      unfold pickP
      rw [List.getElem?_map, ownIds_get s.σ st0.bl 0 i e1, Nat.zero_add]
      rfl
    rw [e3] at e2
    injection e2 with e2
    have hB := hbl.get e1
    rw [Nat.zero_add] at hB
    rcases hB with rfl | ⟨b, hb1, hb2⟩
    · exact e2.symm
    · have henv : envOf s.σ ρ i = ρ b := by unfold envOf; rw [hb1]
      rw [henv]
      rw [hb1] at e2
      have hcs : ∀ {l : List CV} {m : List CV} {cs : List Value}, All2 (SimC s.lt (maskB 0 idl bl).length s.σ (maskB 0 idl bl)) l m → All2 (RealC g ρ bl) l cs → All2 (RealC g' (envOf s.σ ρ) st0.bl) m cs :=
        fun h1 h2 => all2_real hctx h1 (h2.mono fun _ _ => RealC.ext (.refl g) mask_ext)
      cases hb2 with
      | no => exact e2.symm
      | cells h hs =>
        obtain ⟨k1, h1, b0, cs, rfl, h3, h4⟩ := hr.own_at (mask_at h (by simp))
        have e2 : (own[b]?).join = k0 := e2
        rw [h1] at e2
        exact ⟨b0, cs, e2.symm, h3, hcs hs h4⟩
      | @row _ c et xs h =>
        obtain ⟨b', c', et', xs', h3, h4⟩ := rowsB_get hrows e1
        rw [Nat.zero_add, hb1] at h3
        injection h3 with h3; subst h3
        obtain ⟨bv, h5, h6⟩ := h
        rw [h4] at h5; injection h5 with h5; subst h5
        rcases h6 with h6 | h6
        · rw [h6] at h4
          obtain ⟨k1, h1, h2⟩ := hr.own_at (mask_at h4 (by simp))
          have e2 : (own[b]?).join = k0 := e2
          rw [h1] at e2
          have e2 : k1 = k0 := e2
          subst e2
          show Buf g'.b c.ty et _ _ _
          rw [hgb]
          exact h2
        · cases h6
      | lent h hs =>
        obtain ⟨k1, h1, h2, ad, cs, h3, h4, h5⟩ := hr.own_at (mask_at h (by simp))
        exact ⟨e2.symm, ad, cs, h3, h4.mono hgr, hcs hs h5⟩
      | lend hl h hs =>
        obtain ⟨k1, h1, b0, cs, rfl, h3, h4⟩ := hr.own_at (mask_at h (by simp))
        exact ⟨e2.symm, _, cs, h3, cells_lent (k := ⟨b0, _, cs⟩) 0 cs (hkeep b _ hl h1) (by simp), hcs hs h4⟩
      | map h =>
        obtain ⟨k1, h1, b0, cs, rfl, h3, h4⟩ := hr.own_at (mask_at h (by simp))
        have e2 : (own[b]?).join = k0 := e2
        rw [h1] at e2
        exact ⟨b0, cs, e2.symm, h3, by rw [hgb]; exact h4⟩
  · obtain ⟨y, h1, h2⟩ := hsl (t, sv) (getH_mem e)
    obtain ⟨v, h3, h4⟩ := hra t y h1
    exact ⟨v, h3, SimS.real hctx h2 (h4.ext (.refl g) mask_ext)⟩
end
section
variable {P : Program} {n : Nat} {ty : TypeId} {sl : List (Nat × SV)} {bl bl' : List BV} {v : SV} {f : Nat} {g : Gh} {ρ : Env} {own : Own} {fr : Sl}
noncomputable def ownBack (np f nn : Nat) (is : List (Option Nat)) (sel own : Own) : Own :=
  (List.range own.length).map fun i => if f ≤ i ∧ i < f + nn then (sel[np + (i - f)]?).join else @dite _ (∃ j : Nat, is[j]? = some (some i)) (Classical.propDecidable _) (fun h => (sel[Classical.choose h]?).join) (fun _ => (own[i]?).join)
theorem ownBack_len {np f nn : Nat} {is : List (Option Nat)} {sel own : Own} : (ownBack np f nn is sel own).length = own.length := by simp [ownBack]
theorem ownBack_new {np f nn : Nat} {is : List (Option Nat)} {sel own : Own} {i : Nat} (hi : i < own.length) (h : f ≤ i ∧ i < f + nn) : (ownBack np f nn is sel own)[i]? = some (sel[np + (i - f)]?).join := by
  unfold ownBack
  rw [List.getElem?_map, List.getElem?_range hi]
  simp only [Option.map_some]
  rw [if_pos h]
theorem ownBack_is {np f nn : Nat} {is : List (Option Nat)} {sel own : Own} {i j : Nat} (hi : i < own.length) (h : ¬ (f ≤ i ∧ i < f + nn)) (hnd : (is.filterMap id).Nodup) (hj : is[j]? = some (some i)) : (ownBack np f nn is sel own)[i]? = some (sel[j]?).join := by
  unfold ownBack
  rw [List.getElem?_map, List.getElem?_range hi]
  simp only [Option.map_some]
  have hex : ∃ j : Nat, is[j]? = some (some i) := ⟨j, hj⟩
  rw [if_neg h, dif_pos hex]
  have := filterMap_nodup_inj hnd (Classical.choose_spec hex) hj
  rw [this]
theorem ownBack_other {np f nn : Nat} {is : List (Option Nat)} {sel own : Own} {i : Nat} (hi : i < own.length) (h : ¬ (f ≤ i ∧ i < f + nn)) (hj : ¬ ∃ j : Nat, is[j]? = some (some i)) : (ownBack np f nn is sel own)[i]? = some (own[i]?).join := by
  unfold ownBack
  rw [List.getElem?_map, List.getElem?_range hi]
  simp only [Option.map_some]
  rw [if_neg h, dif_neg hj]
theorem join_some {α : Type} {x : Option (Option α)} {k : α} (h : x.join = some k) : x = some (some k) := by
  cases x with
  | none => cases h
  | some y => exact congrArg some h
theorem callBack {np nn : Nat} {is : List (Option Nat)} {st0 : List BV} {σ : List (Option Nat)} {str : HSt} {sel' : Own} {ρr : Env} {g2 : Gh} {w : World} {m : Nat} {v0 : Value} (hr : Rl g ρ ⟨sl, bl⟩ own fr) (hg : g.le g2) (his : is = ownIds σ 0 st0) (hnp : st0.length = np) (hnd : (is.filterMap id).Nodup)
    (hnn : np + nn = str.bl.length) (hm : nn ≤ m) (hf : ∀ (i : Nat), i < m → bl[f + i]? = some .hole) (hkn : ∀ (j b : Nat), is[j]? = some (some b) → ∃ bv : BV, bl[b]? = some bv ∧ bv.isHole = false)
    (hlen : ∀ (j b : Nat) (bv : BV) (l : Nat), j < np → is[j]? = some (some b) → str.bl[j]? = some bv → bv.len = some l → ∃ bv0 : BV, bl[b]? = some bv0 ∧ bv0.len = some l)
    (hbase : baseSt str = true) (hR : Rl (ghB g2.b) ρr str sel' [(0, v0)]) (hρ : ∀ (j : Nat), j < np → ρr j = envOf σ ρ j) (hown : ∀ (j : Nat) (bv : BV), j < np → str.bl[j]? = some bv → bv.owned = true → ∃ b : Nat, is[j]? = some (some b))
    (hs2 : St w g2 (sel' ++ dropIds 0 (is.filterMap id) own)) {s0 : SV} (hs0 : getH str.sl 0 = some s0)
    (hbl' : bl' = setNew (setUpd bl (updL (rnOf np f σ) σ 0 st0 str.bl)) f ((str.bl.drop np).map (renB (rnOf np f σ)))) :
    ∃ ρ' own', Ext ρ bl ρ' bl' ∧ St w g2 own' ∧ Rl g2 ρ' ⟨sl, bl'⟩ own' fr ∧ RealS g2 ρ' bl' (renS (rnOf np f σ) s0) v0 := by
  have hol : own.length = bl.length := hr.len
  have hsl : sel'.length = str.bl.length := hR.len
  have hbb : ∀ (j : Nat) (bv : BV), str.bl[j]? = some bv → baseB str.bl bv = true := fun j bv e => by
    simp only [baseSt, Bool.and_eq_true] at hbase
    exact allB_get hbase.2 (List.mem_of_getElem? e)
  have hbs : baseS str.bl s0 = true := by
    simp only [baseSt, Bool.and_eq_true] at hbase
    exact allB_get (p := fun p : Nat × SV => baseS str.bl p.2) hbase.1 (getH_mem hs0)
  have hnh : ∀ (j : Nat) (bv : BV), str.bl[j]? = some bv → bv.isHole = false := fun j bv e => by
    have := hbb j bv e
    cases bv <;> first | rfl | cases this
  have hbl : bl'.length = bl.length := by rw [hbl', setNew_len, setUpd_len]
  have hnl : ((str.bl.drop np).map (renB (rnOf np f σ))).length = nn := by rw [List.length_map, List.length_drop]; omega
  have hisl : is.length = np := by rw [his, ownIds_len, hnp]
  have hfl : ∀ i, i < nn → f + i < bl.length := fun i hi => get_lt (hf i (by omega))
  have hnot : ∀ (b : Nat) (bv : BV), bl[b]? = some bv → bv.isHole = false → ¬ (f ≤ b ∧ b < f + nn) := fun b bv e hh ⟨h1, h2⟩ => by
    have := hf (b - f) (by omega)
    rw [show f + (b - f) = b by omega, e] at this
    injection this with this; subst this; cases hh
  have hisj : ∀ (j b : Nat), is[j]? = some (some b) → sigAt σ j = some b ∧ j < np ∧ ∃ y, st0[j]? = some y ∧ y.owned = true := fun j b e => by
    rw [his] at e
    obtain ⟨y, h1, h2, h3⟩ := ownIds_some e
    exact ⟨h3, by rw [← hnp]; exact get_lt h1, y, h1, h2⟩
  have A2 : ∀ (i : Nat) (bv : BV), i < nn → str.bl[np + i]? = some bv → bl'[f + i]? = some (renB (rnOf np f σ) bv) := fun i bv hi e => by
    rw [hbl']
    refine setNew_in (by rw [List.getElem?_map, List.getElem?_drop, e]; rfl) ?_
    rw [hnl, setUpd_len]
    have := hfl (nn - 1) (by omega)
    omega
  have hnodup : ((updL (rnOf np f σ) σ 0 st0 str.bl).map Prod.fst).Nodup := updL_nodup fun a b i _ _ ⟨y, h1, h2⟩ ⟨z, h3, h4⟩ h5 h6 => by
    have e1 := ownIds_at h1 h2 h5
    have e2 := ownIds_at h3 h4 h6
    rw [Nat.sub_zero] at e1 e2
    rw [his] at hnd
    exact filterMap_nodup_inj hnd e1 e2
  have A3 : ∀ (j b : Nat) (bv : BV), is[j]? = some (some b) → str.bl[j]? = some bv → bl'[b]? = some (renB (rnOf np f σ) bv) := fun j b bv e1 e2 => by
    obtain ⟨h1, h2, y, h3, h4⟩ := hisj j b e1
    obtain ⟨bv0, h5, h6⟩ := hkn j b e1
    have h7 := hnot b bv0 h5 h6
    rw [hbl', setNew_out (by rw [hnl]; omega)]
    exact setUpd_in (updL_at h3 e2 h4 (by rw [Nat.zero_add]; exact h1)) hnodup (get_lt h5)
  have A4 : ∀ (i : Nat), ¬ (f ≤ i ∧ i < f + nn) → (¬ ∃ j : Nat, is[j]? = some (some i)) → bl'[i]? = bl[i]? := fun i h1 h2 => by
    rw [hbl', setNew_out (by rw [hnl]; omega)]
    refine setUpd_out fun p hp e => h2 ?_
    obtain ⟨j, b0, b, h3, _, h5, h6, _⟩ := updL_mem hp
    rw [Nat.zero_add, e] at h6
    exact ⟨j, by rw [his]; exact ownIds_at h3 h5 h6⟩
  -- the environment
  obtain ⟨ρ', hρ'⟩ : ∃ ρ' : Env, ρ' = fun i => if f ≤ i ∧ i < f + nn then ρr (np + (i - f)) else ρ i := ⟨_, rfl⟩
  have hρn : ∀ i, i < nn → ρ' (f + i) = ρr (np + i) := fun i hi => by
    rw [hρ']
    show (if f ≤ f + i ∧ f + i < f + nn then _ else _) = _
    rw [if_pos (by omega), show f + i - f = i by omega]
  have hρo : ∀ i, ¬ (f ≤ i ∧ i < f + nn) → ρ' i = ρ i := fun i h => by
    rw [hρ']
    exact if_neg h
  have hx : Ext ρ bl ρ' bl' := fun b bv h1 h2 => by
    have h3 := hnot b bv h1 h2
    refine ⟨hρo b h3, ?_⟩
    by_cases hj : ∃ j : Nat, is[j]? = some (some b)
    · obtain ⟨j, hj⟩ := hj
      obtain ⟨h4, h5, _⟩ := hisj j b hj
      have h6 : j < str.bl.length := by omega
      refine ⟨_, A3 j b _ hj (List.getElem?_eq_getElem h6), by rw [renB_hole]; exact hnh j _ (List.getElem?_eq_getElem h6), fun l hl => ?_⟩
      rw [renB_len] at hl
      obtain ⟨bv0, h7, h8⟩ := hlen j b _ l h5 hj (List.getElem?_eq_getElem h6) hl
      rw [h1] at h7; injection h7 with h7; subst h7
      exact h8
    · exact ⟨bv, by rw [A4 b h3 hj]; exact h1, h2, fun l hl => hl⟩
  have hren : RenOk (rnOf np f σ) ρr str.bl ρ' bl' := ⟨fun j bv e ho => by
    have hh := hnh j bv e
    by_cases hj : j < np
    · obtain ⟨b, hb⟩ := hown j bv hj e ho
      obtain ⟨h1, _, _⟩ := hisj j b hb
      obtain ⟨bv0, h5, h6⟩ := hkn j b hb
      have hrn : rnOf np f σ j = b := by
        unfold rnOf
        rw [show Nat.blt j np = true by simpa using hj, h1]; rfl
      rw [hrn]
      refine ⟨?_, _, A3 j b bv hb e, by rw [renB_hole]; exact hh, renB_len bv⟩
      rw [hρo b (hnot b bv0 h5 h6), hρ j hj]
      unfold envOf
      rw [h1]
    · have hlt := get_lt e
      have hrn : rnOf np f σ j = f + (j - np) := by
        unfold rnOf
        rw [show Nat.blt j np = false by cases h : Nat.blt j np with | false => rfl | true => exact absurd (by simpa using h) hj]; rfl
      rw [hrn]
      have e' : str.bl[np + (j - np)]? = some bv := by rw [show np + (j - np) = j by omega]; exact e
      refine ⟨?_, _, A2 (j - np) bv (by omega) e', by rw [renB_hole]; exact hh, renB_len bv⟩
      rw [hρn (j - np) (by omega), show np + (j - np) = j by omega]⟩
  have hle : g2.b.le g2.b := .refl _
  refine ⟨ρ', ownBack np f nn is sel' own, hx, hs2.back (fun i k e => ?_) (fun i j k e1 e2 => ?_), hr.turn hg hx (by rw [ownBack_len, hol, hbl]) (fun i bv k e1 e2 => ?_), ?_⟩
  ·
    have hi : i < own.length := by rw [← ownBack_len (np := np) (f := f) (nn := nn) (is := is) (sel := sel') (own := own)]; exact get_lt e
    by_cases h1 : f ≤ i ∧ i < f + nn
    · rw [ownBack_new hi h1] at e
      injection e with e
      exact .inl ⟨_, join_some e⟩
    · by_cases h2 : ∃ j : Nat, is[j]? = some (some i)
      · obtain ⟨j, hj⟩ := h2
        rw [ownBack_is hi h1 hnd hj] at e
        injection e with e
        exact .inl ⟨_, join_some e⟩
      · rw [ownBack_other hi h1 h2] at e
        injection e with e
        refine .inr ⟨i, ?_⟩
        rw [dropIds_get (join_some e), Nat.zero_add]
        have : natMem i (is.filterMap id) = false := by
          cases hmm : natMem i (is.filterMap id) with
          | false => rfl
          | true => exact absurd (mem_ids.1 hmm) h2
        rw [this]; rfl
  · have hpos : ∀ (i : Nat), (ownBack np f nn is sel' own)[i]? = some (some k) → ∃ q : Nat, (sel' ++ dropIds 0 (is.filterMap id) own)[q]? = some (some k) ∧ ((f ≤ i ∧ i < f + nn ∧ q = np + (i - f) ∧ q < sel'.length) ∨ (q < np ∧ q < sel'.length ∧ is[q]? = some (some i)) ∨ (q = sel'.length + i)) := by
      intro i e
      have hi : i < own.length := by rw [← ownBack_len (np := np) (f := f) (nn := nn) (is := is) (sel := sel') (own := own)]; exact get_lt e
      by_cases h1 : f ≤ i ∧ i < f + nn
      · rw [ownBack_new hi h1] at e
        injection e with e
        have e := join_some e
        have hlt := get_lt e
        exact ⟨_, by rw [List.getElem?_append_left hlt]; exact e, .inl ⟨h1.1, h1.2, rfl, hlt⟩⟩
      · by_cases h2 : ∃ j : Nat, is[j]? = some (some i)
        · obtain ⟨j, hj⟩ := h2
          rw [ownBack_is hi h1 hnd hj] at e
          injection e with e
          have e := join_some e
          have hlt := get_lt e
          exact ⟨j, by rw [List.getElem?_append_left hlt]; exact e, .inr (.inl ⟨by rw [← hisl]; exact get_lt hj, hlt, hj⟩)⟩
        · rw [ownBack_other hi h1 h2] at e
          injection e with e
          refine ⟨sel'.length + i, ?_, .inr (.inr rfl)⟩
          rw [List.getElem?_append_right (by omega), show sel'.length + i - sel'.length = i by omega, dropIds_get (join_some e), Nat.zero_add]
          have : natMem i (is.filterMap id) = false := by
            cases hmm : natMem i (is.filterMap id) with
            | false => rfl
            | true => exact absurd (mem_ids.1 hmm) h2
          rw [this]; rfl
    obtain ⟨q1, h1, c1⟩ := hpos i e1
    obtain ⟨q2, h2, c2⟩ := hpos j e2
    have hq := ids_inj hs2.nodup h1 h2 rfl
    subst hq
    rcases c1 with ⟨a1, a2, a3, a4⟩ | ⟨a1, a2, a3⟩ | a1 <;> rcases c2 with ⟨b1, b2, b3, b4⟩ | ⟨b1, b2, b3⟩ | b1
    · omega
    · omega
    · omega
    · omega
    · rw [a3] at b3; injection b3 with b3; injection b3
    · omega
    · omega
    · omega
    · omega
  ·
    have hi : i < own.length := by rw [← ownBack_len (np := np) (f := f) (nn := nn) (is := is) (sel := sel') (own := own)]; exact get_lt e2
    by_cases h1 : f ≤ i ∧ i < f + nn
    · rw [ownBack_new hi h1] at e2
      injection e2 with e2
      have hlt : np + (i - f) < str.bl.length := by omega
      have e3 := A2 (i - f) _ (by omega) (List.getElem?_eq_getElem hlt)
      rw [show f + (i - f) = i by omega, e1] at e3
      injection e3 with e3; subst e3
      have e4 : sel'[np + (i - f)]? = some (sel'[np + (i - f)]'(by omega)) := List.getElem?_eq_getElem (by omega)
      rw [e4] at e2
      have e2 : sel'[np + (i - f)]'(by omega) = k := e2
      have := hR.blk _ _ _ (List.getElem?_eq_getElem hlt) e4
      rw [e2] at this
      have h3 := hρn (i - f) (by omega)
      rw [show f + (i - f) = i by omega] at h3
      rw [h3]
      exact renB_real hren hle (hbb _ _ (List.getElem?_eq_getElem hlt)) this
    · by_cases h2 : ∃ j : Nat, is[j]? = some (some i)
      · obtain ⟨j, hj⟩ := h2
        rw [ownBack_is hi h1 hnd hj] at e2
        injection e2 with e2
        obtain ⟨h3, h4, _⟩ := hisj j i hj
        have hlt : j < str.bl.length := by omega
        have e3 := A3 j i _ hj (List.getElem?_eq_getElem hlt)
        rw [e1] at e3
        injection e3 with e3; subst e3
        have e4 : sel'[j]? = some (sel'[j]'(by omega)) := List.getElem?_eq_getElem (by omega)
        rw [e4] at e2
        have e2 : sel'[j]'(by omega) = k := e2
        have := hR.blk _ _ _ (List.getElem?_eq_getElem hlt) e4
        rw [e2, hρ j h4] at this
        have h5 : envOf σ ρ j = ρ i := by unfold envOf; rw [h3]
        rw [h5, ← hρo i h1] at this
        exact renB_real hren hle (hbb _ _ (List.getElem?_eq_getElem hlt)) this
      · rw [ownBack_other hi h1 h2] at e2
        injection e2 with e2
        rw [A4 i h1 h2] at e1
        have e4 : own[i]? = some own[i] := List.getElem?_eq_getElem hi
        rw [e4] at e2
        have e2 : own[i] = k := e2
        have := hr.blk i bv _ e1 e4
        rw [e2] at this
        rw [hρo i h1]
        exact this.ext hg hx
  · obtain ⟨v1, h1, h2⟩ := hR.slot 0 s0 hs0
    have h1 : some v0 = some v1 := h1
    injection h1 with h1; subst h1
    exact renS_real hren hle hbs h2
theorem ownC_get : ∀ {is : List (Option Nat)} {l : List BV} {j : Nat} {x : Option Nat} {bv : BV}, ownC is l = true → is[j]? = some x → l[j]? = some bv → bv.owned = true → ∃ b, x = some b
  | [], _, _, _, _, _, h, _, _ => by simp at h
  | _ :: _, [], _, _, _, _, _, h, _ => by simp at h
  | y :: is, b :: l, 0, x, bv, h, h1, h2, h3 => by
    simp at h1 h2; subst h1; subst h2
    simp only [ownC, Bool.and_eq_true, Bool.or_eq_true, Bool.not_eq_true'] at h
    rcases h.1 with h | h
    · rw [h3] at h; cases h
    · cases y with
      | none => cases h
      | some b => exact ⟨b, rfl⟩
  | y :: is, b :: l, j + 1, x, bv, h, h1, h2, h3 => by
    simp only [ownC, Bool.and_eq_true] at h
    exact ownC_get h.2 (by simpa using h1) (by simpa using h2) h3
def EntersBy (P : Program) (n : Nat) (sl : List (Nat × SV)) (op : Op) (fn : FuncId) (uav : List SV) : Prop := ∀ (bl : List BV) (g : Gh) (ρ : Env) (own : Own) (fr : Sl), Rl g ρ ⟨sl, bl⟩ own fr → ∃ us : List Value, All2 (RealS g ρ bl) uav us ∧ ∀ (o : Oper) (a : Act) (w : World), o.op = op → Fr n a fr → (execOp a.eval o).run P w = .ok (.enter fn us.toArray) w
theorem callN_ok {tbl : FuncId → List FSp} {m : Nat} {op : Op} {uav : List SV} {fn : FuncId} {c : Cand} {idl : List Nat} (hT : ∀ f S, S ∈ tbl f → FOk P f S) (hf : ∀ i, i < m → bl[f + i]? = some .hole)
    (hrun : EntersBy P n sl op fn uav) (hc : firstC (argH 0 uav) (maskB 0 idl bl) (tbl fn) = some c) (hfl : c.s.fl = [])
    (h : Told f (callN f m c) bl bl' v) : EffH P n op ty sl bl bl' v := by
  obtain ⟨S, hS, hcand⟩ := firstC_mem hc
  obtain ⟨rfl, hal, hab, hcon, hchk, hct⟩ := candOf_ok hcand
  have hsame := absSt_same hab hfl
  obtain ⟨r, hrn, h⟩ := h
  obtain ⟨str, hstr, h⟩ := altT_told h
  · split at h
    · rename_i s0 hs0 hb
      simp only [Bool.and_eq_true] at hb
      obtain ⟨hb1, hb2, hb3⟩ := hb
      have hb1 := Nat.le_of_ble_eq_true hb1
      have hb2 := Nat.le_of_ble_eq_true hb2
      obtain ⟨rfl, rfl⟩ := h
      intro o a w Q K g ρ own fr h1 h2 hr hfr hs hk
      obtain ⟨us, hus, hex⟩ := hrun bl g ρ own fr hr
      obtain ⟨hnd, hrows, hlt, hlen⟩ := absChk_ok hchk
      have hra : ∀ t sv, getH (argH 0 uav) t = some sv → ∃ v, getS (argS 0 us) t = some v ∧ RealS g ρ bl sv v := fun t sv e => argH_slot hus e
      have hisl : (ownIds c.s.σ 0 c.st0.bl).length = c.st0.bl.length := ownIds_len _ _ _
      refine eff_call (is := ownIds c.s.σ 0 c.st0.bl) hex hnd (fun g' hgr hgb hlent => hT fn c.S hS c.t r c.st0 hrn hct g' (envOf c.s.σ ρ) _ us (given_ok hr hra hab hsame hcon hchk hgr hgb hlent) (by rw [hal, argH_len, hus.len])) o a w Q K h1 h2 hfr hs
        fun v' g2 own2 w2 hg2 hs2 ⟨sel', e, str', ρr, e2, hbase, hR, hρ⟩ => ?_
      subst e
      rw [hstr] at e2; injection e2 with e2; subst e2
      obtain ⟨st2, e3, _, _, _, hbl⟩ := absSt_ok hab
      rw [hcon] at e3; injection e3 with e3; subst e3
      rw [hsame] at hbl
      have hblk : ∀ (j b : Nat), (ownIds c.s.σ 0 c.st0.bl)[j]? = some (some b) → ∃ y bv : BV, c.st0.bl[j]? = some y ∧ bl[b]? = some bv ∧ bv.isHole = false ∧ ∀ l, y.len = some l → bv.len = some l := fun j b e => by
        obtain ⟨y, h3, h4, h5⟩ := ownIds_some e
        have hB := hbl.get h3
        rw [Nat.zero_add] at hB
        rcases hB with rfl | ⟨b', h6, h7⟩
        · cases h4
        · rw [h5] at h6; injection h6 with h6; subst h6
          cases h7 with
          | no => cases h4
          | cells h hs => exact ⟨_, _, h3, mask_at h (by simp), rfl, fun l hl => by cases hl⟩
          | @row _ d et xs h =>
            obtain ⟨bv, h8, h9⟩ := h
            rcases h9 with rfl | rfl
            · exact ⟨_, _, h3, mask_at h8 (by simp), rfl, fun l hl => hl⟩
            · exact ⟨_, _, h3, mask_at h8 (by simp), rfl, fun l hl => hl⟩
          | lent h hs => cases h4
          | lend hl h hs => cases h4
          | map h => exact ⟨_, _, h3, mask_at h (by simp), rfl, fun l hl => by cases hl⟩
      obtain ⟨ρ', own', hx, hst, hrl, hv⟩ := callBack (np := c.st0.bl.length) (nn := str.bl.length - c.st0.bl.length) (m := m) hr hg2 rfl rfl hnd (by omega) hb2 hf
        (fun j b e => by obtain ⟨y, bv, _, h4, h5, _⟩ := hblk j b e; exact ⟨bv, h4, h5⟩)
        (fun j b bv l hj e1 e2 e3 => by
          obtain ⟨y, bv0, h3, h4, _, h6⟩ := hblk j b e1
          obtain ⟨y', h7, h8⟩ := lenAt_some ((hρ j hj).2 bv l e2 e3)
          rw [h3] at h7; injection h7 with h7; subst h7
          exact ⟨bv0, h4, h6 l h8⟩)
        hbase hR (fun j hj => (hρ j hj).1)
        (fun j bv hj e1 e2 => by
          have h3 : (ownIds c.s.σ 0 c.st0.bl)[j]? = some ((ownIds c.s.σ 0 c.st0.bl)[j]'(by rw [hisl]; exact hj)) := List.getElem?_eq_getElem (by rw [hisl]; exact hj)
          obtain ⟨b, hb⟩ := ownC_get hb3 h3 e1 e2
          exact ⟨b, by rw [h3, hb]⟩)
        hs2 hs0 rfl
      exact hk v' g2 ρ' own' w2 hg2 hx hst hrl hv
    · exact h.elim
theorem callT_ok {tbl : FuncId → List FSp} {m : Nat} {op : Op} {fn : FuncId} {uav : List SV} (hT : ∀ f S, S ∈ tbl f → FOk P f S) (hf : ∀ i, i < m → bl[f + i]? = some .hole) (hrun : enters P fn = true → EntersBy P n sl op fn uav) (h : Told f (callT P tbl f m fn uav) bl bl' v) :
    EffH P n op ty sl bl bl' v := by
  unfold callT at h
  obtain ⟨he, h⟩ := condT h
  obtain ⟨idl, h⟩ := h
  dsimp only at h
  split at h
  · rename_i c hc
    split at h
    · rename_i hfl
      exact callN_ok hT hf (hrun he) hc hfl h
    · obtain ⟨bl1, hfz, h⟩ := frzAll_told h
      obtain ⟨idl2, h⟩ := h
      dsimp only at h
      split at h
      · rename_i c2 hc2
        split at h
        · rename_i hfl
          exact EffH.frz hfz (callN_ok hT (fun i hi => hfz.hole (hf i hi)) (hrun he) hc2 hfl h)
        · exact h.elim
      · exact h.elim
  · exact h.elim
theorem tCall_ok {tbl : FuncId → List FSp} {m : Nat} {x : Operand} {args : List Operand} {ats : Array TypeId} (hT : ∀ f S, S ∈ tbl f → FOk P f S) (hf : ∀ i, i < m → bl[f + i]? = some .hole) (h : Told f (tCall P tbl sl f m x args) bl bl' v) :
    EffH P n (.call { callee := .value x, args := args.toArray, argTypes := ats }) ty sl bl bl' v := by
  unfold tCall at h
  split at h
  · rename_i fn c avs ex ea
    refine callT_ok hT hf (fun he bl g ρ own fr hr => ?_) h
    obtain ⟨vx, hx1, u, hu, rfl⟩ := evH_real hr ex
    obtain ⟨vs, ha1, ha2⟩ := evL_real hr ea
    refine ⟨u :: vs, ⟨hu, ha2⟩, fun o a w h1 hf => ?_⟩
    have : args.toArray.map a.eval = vs.toArray := by
      apply Array.toList_inj.1
      rw [Array.toList_map, hf.evs (xs := args.toArray.toList) (by simpa using ha1)]
    simp [execOp, h1, resolve, hf.ev hx1, Deferred.ofValue, invoke, this, run_callFunc_of he]
  · rename_i fv avs _ ex ea
    split at h
    · rename_i fn caps hfn
      refine callT_ok hT hf (fun he bl g ρ own fr hr => ?_) h
      obtain ⟨vx, hx1, hx2⟩ := evH_real hr ex
      obtain ⟨cs, rfl, hcs⟩ := fnOf_real hfn hx2
      obtain ⟨vs, ha1, ha2⟩ := evL_real hr ea
      refine ⟨vs ++ cs, All2.app (all2_map (f := vC) (R := RealS g ρ bl) hcs) ha2, fun o a w h1 hf => ?_⟩
      have : args.toArray.map a.eval = vs.toArray := by
        apply Array.toList_inj.1
        rw [Array.toList_map, hf.evs (xs := args.toArray.toList) (by simpa using ha1)]
      simp [execOp, h1, resolve, hf.ev hx1, Deferred.ofValue, invoke, this, run_callFunc_of he]
    · exact h.elim
  · exact h.elim
theorem run_method {t : TypeId} {name : String} {fn : FuncId} {u : Value} {args : Array Value} {w : World} (h : mthOf P t name = some fn) : (callMethod (.iface t u) name args).run P w = (callFunc fn (#[u] ++ args)).run P w := by
  unfold mthOf at h
  split at h
  · rename_i i e hi hu
    split at h
    · rename_i m hm
      split at h
      · rename_i f0 hp hf
        injection h with h; subst h
        obtain ⟨k, hk⟩ : ∃ k, P.types.size + Made.depth = k + 1 := ⟨P.types.size + (Made.depth - 1), rfl⟩
        have hti : (typeInfo t).run P w = .ok i w := by simp [typeInfo, hi]
        simp [callMethod, hk, method, hti, hm, hp, hf, follow, receiverAt, run_underlying hu, Place.get]
      · cases h
    · cases h
  · cases h
theorem tInv_ok {tbl : FuncId → List FSp} {m : Nat} {x : Operand} {name : String} {args : List Operand} {ats : Array TypeId} (hT : ∀ f S, S ∈ tbl f → FOk P f S) (hf : ∀ i, i < m → bl[f + i]? = some .hole) (h : Told f (tInv P tbl sl f m x name args) bl bl' v) :
    EffH P n (.call { callee := .invoke x name, args := args.toArray, argTypes := ats }) ty sl bl bl' v := by
  unfold tInv at h
  split at h
  · rename_i t c avs ex ea
    split at h
    · rename_i fn hfn
      refine callT_ok hT hf (fun he bl g ρ own fr hr => ?_) h
      obtain ⟨vx, hx1, u, hu, rfl⟩ := evH_real hr ex
      obtain ⟨vs, ha1, ha2⟩ := evL_real hr ea
      refine ⟨u :: vs, ⟨hu, ha2⟩, fun o a w h1 hf => ?_⟩
      have : args.toArray.map a.eval = vs.toArray := by
        apply Array.toList_inj.1
        rw [Array.toList_map, hf.evs (xs := args.toArray.toList) (by simpa using ha1)]
      simp [execOp, h1, resolve, hf.ev hx1, invoke, this, run_method hfn, run_callFunc_of he]
    · exact h.elim
  · exact h.elim
end
section
variable {P : Program} {n : Nat} {ty : TypeId} {sl : List (Nat × SV)} {bl bl' : List BV} {v : SV} {f : Nat} {g : Gh} {ρ : Env} {own : Own} {fr : Sl}
def tField (P : Program) (sl : List (Nat × SV)) (t : TypeId) (x : Operand) (i : Nat) : Tr := match P.underlying t, evH sl x with
  | some (.struct fs), some (.v (.agg l)) => (match fs[i]? with | some fd => readT P fd.type l fd.offset | none => .no)
  | _, _ => .no
theorem run_part1 {t : TypeId} {cs : List Value} {off : Nat} {u : Value} (hf : flatOf P t = true) (h : cs[off]? = some u) (w : World) : (part t cs.toArray off).run P w = .ok u w := by
  have h1 := run_isAgg_flat hf w
  simp [part, h1, h]
theorem run_partA {t : TypeId} {cs vs : List Value} {off : Nat} (hf : aggOf P t = some vs.length) (h : (cs.drop off).take vs.length = vs) (w : World) : (part t cs.toArray off).run P w = .ok (.agg vs.toArray) w := by
  obtain ⟨h1, h2⟩ := run_isAgg_of hf w
  have e : cs.toArray.extract off (off + vs.length) = vs.toArray := by
    rw [List.extract_toArray, List.extract_eq_take_drop, show off + vs.length - off = vs.length by omega, h]
  simp [part, h1, h2]
  simpa using h
theorem readL_part {t : TypeId} {l : List CV} {off : Nat} {cs : List Value} (h : readL P t l off = some v) (hl : All2 (RealC g ρ bl) l cs) : ∃ u, RealS g ρ bl v u ∧ ∀ w, (part t cs.toArray off).run P w = .ok u w := by
  rcases readL_real h hl with ⟨hf, u, h1, h2⟩ | ⟨vs, h1, h2, h3⟩
  · exact ⟨u, h2, run_part1 hf h1⟩
  · exact ⟨_, h3, run_partA h1 h2⟩
theorem tField_ok {t : TypeId} {x : Operand} {i : Nat} (h : Told f (tField P sl t x i) bl bl' v) : EffH P n (.field t x i) ty sl bl bl' v := by
  unfold tField at h
  split at h
  · rename_i fs l hu ex
    split at h
    · rename_i fd hfd
      obtain ⟨rfl, e⟩ := readT_told h
      refine .of_yld fun g ρ own fr hr => ?_
      obtain ⟨vx, hx1, cs, rfl, hx2⟩ := evH_real hr ex
      obtain ⟨u, h1, h2⟩ := readL_part e hx2
      refine ⟨u, h1, fun o ac w e1 e2 hf hr => ?_⟩
      have : (Instr.field t (.agg cs.toArray) i).run P w = .ok u w := by
        simp only [Instr.field, run_underlying hu, Sem.run_bind, Result.andThen_ok, hfd, asAgg, Sem.run_pure, h2]
      simp [execOp, e1, hf.ev hx1, this]
    · exact h.elim
  · exact h.elim
def fillH (place : Nat → Option (Nat × Nat)) : List CV → List (Nat × List CV) → Option (List CV)
  | cs, [] => some cs
  | cs, (i, v) :: rest => match place i with
    | some (off, size) => cond (Nat.beq v.length size && Nat.ble (off + v.length) cs.length) (fillH place (setRowC cs off v) rest) none
    | none => none
theorem fold_setRow : ∀ (vs : List Value) (k off : Nat) (cells : List Value), ((vs.zipIdx k).foldl (fun cs p => cs.setIfInBounds (off + p.2) p.1) cells.toArray).toList = setRow cells (off + k) vs
  | [], k, off, cells => rfl
  | v :: vs, k, off, cells => by
    rw [List.zipIdx_cons, List.foldl_cons]
    have := fold_setRow vs (k + 1) off (cells.set (off + k) v)
    rw [← List.setIfInBounds_toArray] at this
    rw [this]
    rfl
theorem fill_real {place : Nat → Option (Nat × Nat)} : ∀ {ps : List (Nat × List CV)} {pv : List (Nat × Value)} {l l' : List CV} {cs : List Value}, fillH place l ps = some l' → All2 (RealC g ρ bl) l cs →
    All2 (fun (p : Nat × List CV) (q : Nat × Value) => p.1 = q.1 ∧ ∃ us, q.2.cells = us.toArray ∧ All2 (RealC g ρ bl) p.2 us) ps pv → ∃ cs', Instr.fill place cs.toArray pv = some cs'.toArray ∧ All2 (RealC g ρ bl) l' cs'
  | [], [], l, l', cs, h, hl, _ => by injection h with h; subst h; exact ⟨cs, rfl, hl⟩
  | (i, m) :: ps, (j, u) :: pv, l, l', cs, h, hl, hp => by
    obtain ⟨⟨e, us, h1, h2⟩, hp⟩ := hp
    have e : i = j := e
    subst e
    unfold fillH at h
    split at h
    · rename_i off size hpl
      obtain ⟨hc, h⟩ := condS h
      simp only [Bool.and_eq_true] at hc
      have hc1 := Nat.eq_of_beq_eq_true hc.1
      have hc2 := Nat.le_of_ble_eq_true hc.2
      have h1 : u.cells = us.toArray := h1
      have hus : us.length = size := by rw [← h2.len]; exact hc1
      obtain ⟨cs', h3, h4⟩ := fill_real h (setRowC_real off h2 hl) hp
      refine ⟨cs', ?_, h4⟩
      unfold Instr.fill
      rw [hpl]
      have hn : ¬ ((decide (u.cells.size ≠ size) || decide (off + u.cells.size > cs.toArray.size)) = true) := by
        rw [h1]
        have := hl.len
        have := h2.len
        simp; omega
      simp only []
      rw [if_neg (by simpa using hn)]
      rw [← h3]
      congr 1
      rw [h1]
      have := fold_setRow us 0 off cs
      rw [Nat.add_zero] at this
      apply Array.toList_inj.1
      rw [List.toList_toArray, ← this]
      simp [← Array.foldl_toList]
    · cases h
  | [], _ :: _, _, _, _, _, _, h => h.elim
  | _ :: _, [], _, _, _, _, _, h => h.elim
def partsH (sl : List (Nat × SV)) : List (Nat × Operand) → Option (List (Nat × List CV))
  | [] => some []
  | (i, x) :: l => match evH sl x with
    | some s => (match cellsS s, partsH sl l with | some c, some m => some ((i, c) :: m) | _, _ => none)
    | none => none
theorem partsH_real (hr : Rl g ρ ⟨sl, bl⟩ own fr) : ∀ {l : List (Nat × Operand)} {ps : List (Nat × List CV)}, partsH sl l = some ps → ∃ pv : List (Nat × Value), l.map (fun q => (evS fr q.2).map fun v => (q.1, v)) = pv.map some ∧
    All2 (fun (p : Nat × List CV) (q : Nat × Value) => p.1 = q.1 ∧ ∃ us, q.2.cells = us.toArray ∧ All2 (RealC g ρ bl) p.2 us) ps pv
  | [], ps, h => by injection h with h; subst h; exact ⟨[], rfl, trivial⟩
  | (i, x) :: l, ps, h => by
    unfold partsH at h
    split at h
    · rename_i s hs
      split at h
      · rename_i c m hc hm
        injection h with h; subst h
        obtain ⟨pv, h1, h2⟩ := partsH_real hr hm
        obtain ⟨u, h3, h4⟩ := evH_real hr hs
        obtain ⟨us, h5, h6⟩ := cellsS_real hc h4
        exact ⟨(i, u) :: pv, by rw [List.map_cons, List.map_cons, h1]; simp only [h3]; rfl, ⟨rfl, us, h5, h6⟩, h2⟩
      · cases h
    · cases h
theorem ev_parts {a : Act} {n : Nat} (hf : Fr n a fr) : ∀ {l : List (Nat × Operand)} {pv : List (Nat × Value)}, l.map (fun q => (evS fr q.2).map fun v => (q.1, v)) = pv.map some → l.map (fun q => (q.1, a.eval q.2)) = pv
  | [], [], _ => rfl
  | q :: l, u :: pv, h => by
    simp only [List.map_cons, List.cons.injEq, Option.map_eq_some_iff] at h
    obtain ⟨⟨v, hv, e⟩, h3⟩ := h
    rw [List.map_cons, ev_parts hf h3, hf.ev hv, e]
  | [], _ :: _, h => by simp at h
  | _ :: _, [], h => by simp at h
def builtH (P : Program) (t : TypeId) (ps : List (Nat × List CV)) : Option (List CV) := match P.info? t, P.underlying t with
  | some it, some (.array _ e) => (match it.zero, P.info? e with
    | some z, some ie => (match constL z.cells.toList with | some l => fillH (fun i => some (i * ie.size, ie.size)) l ps | none => none)
    | _, _ => none)
  | some it, some (.struct fields) => (match it.zero, fields.toList.mapM (fun f => (P.info? f.type).map fun i => (f.offset, i.size)) with
    | some z, some places => (match constL z.cells.toList with | some l => fillH (places.toArray[·]?) l ps | none => none)
    | _, _ => none)
  | _, _ => none
theorem builtH_real {t : TypeId} {ps : List (Nat × List CV)} {l : List CV} {pv : List (Nat × Value)} (h : builtH P t ps = some l) (hp : All2 (fun (p : Nat × List CV) (q : Nat × Value) => p.1 = q.1 ∧ ∃ us, q.2.cells = us.toArray ∧ All2 (RealC g ρ bl) p.2 us) ps pv) :
    ∃ cs, P.built t pv = some cs.toArray ∧ All2 (RealC g ρ bl) l cs := by
  unfold builtH at h
  split at h
  · rename_i it k e h1 h2
    split at h
    · rename_i z ie h3 h4
      split at h
      · rename_i l0 hl0
        obtain ⟨cs', h5, h6⟩ := fill_real h (constL_real hl0) hp
        exact ⟨cs', by simp only [Program.built, h1, h2, h3, h4]; simpa using h5, h6⟩
      · cases h
    · cases h
  · rename_i it fields h1 h2
    split at h
    · rename_i z places h3 h4
      split at h
      · rename_i l0 hl0
        obtain ⟨cs', h5, h6⟩ := fill_real h (constL_real hl0) hp
        exact ⟨cs', by simp only [Program.built, h1, h2, h3, h4]; simpa using h5, h6⟩
      · cases h
    · cases h
  · cases h
def tBuild (P : Program) (sl : List (Nat × SV)) (t : TypeId) (parts : List (Nat × Operand)) : Tr := match partsH sl parts with
  | some ps => (match builtH P t ps with | some l => retT (.v (.agg l)) | none => .no)
  | none => .no
theorem tBuild_ok {t : TypeId} {parts : List (Nat × Operand)} (h : Told f (tBuild P sl t parts) bl bl' v) : EffH P n (.build t parts.toArray) ty sl bl bl' v := by
  unfold tBuild at h
  split at h
  · rename_i ps hps
    split at h
    · rename_i l hl
      obtain ⟨rfl, rfl⟩ := told_ret h
      refine .of_yld fun g ρ own fr hr => ?_
      obtain ⟨pv, h1, h2⟩ := partsH_real hr hps
      obtain ⟨cs, h3, h4⟩ := builtH_real hl h2
      refine ⟨.agg cs.toArray, ⟨cs, rfl, h4⟩, fun o ac w e1 e2 hf hr => ?_⟩
      have e3 : (parts.toArray.map fun (q : Nat × Operand) => (q.1, ac.eval q.2)) = pv.toArray := by
        apply Array.toList_inj.1
        rw [Array.toList_map, List.toList_toArray]
        exact ev_parts hf h1
      have e4 : (Instr.build t pv.toArray).run P w = .ok (.agg cs.toArray) w := run_build w t pv.toArray cs.toArray (by simpa using h3)
      simp only [execOp, e1]
      rw [show (parts.toArray.map fun x => match x with | (i, x) => (i, ac.eval x)) = pv.toArray from e3]
      simp [e4]
    · exact h.elim
  · exact h.elim
def rowH (P : Program) (t : TypeId) (len : Nat) (ps : List (Nat × List CV)) : Option (List CV) := match P.underlying t with
  | some (.slice elem) => (match P.info? elem with
    | some i => cond (Nat.ble (len * i.size) 16777216) (match (if len * i.size = 0 then some #[] else i.zero.map Value.cells) with
      | some zero => (match constL ((List.range' 0 (len * i.size)).map (zero[· % zero.size]!)) with
        | some l => fillH (fun j => some (j * i.size, i.size)) l ps
        | none => none)
      | none => none) none
    | none => none)
  | _ => none
theorem rowH_real {t et : TypeId} {len : Nat} {ps : List (Nat × List CV)} {l : List CV} {pv : List (Nat × Value)} (hu : P.underlying t = some (.slice et)) (h : rowH P t len ps = some l) (hp : All2 (fun (p : Nat × List CV) (q : Nat × Value) => p.1 = q.1 ∧ ∃ us, q.2.cells = us.toArray ∧ All2 (RealC g ρ bl) p.2 us) ps pv) :
    ∃ cs, buildRow P t len pv = some (et, cs.toArray) ∧ All2 (RealC g ρ bl) l cs := by
  unfold rowH at h
  rw [hu] at h
  dsimp only at h
  split at h
  · rename_i i h1
    obtain ⟨hb, h⟩ := condS h
    have hb := Nat.le_of_ble_eq_true hb
    split at h
    · rename_i zero hz
      split at h
      · rename_i l0 hl0
        obtain ⟨cs', h5, h6⟩ := fill_real h (constL_real hl0) hp
        refine ⟨cs', ?_, h6⟩
        unfold buildRow
        rw [hu]
        simp only [h1]
        rw [if_neg (by omega)]
        simp only [hz]
        rw [show ((Array.range (len * i.size)).map (zero[· % zero.size]!)) = ((List.range' 0 (len * i.size)).map (zero[· % zero.size]!)).toArray by rw [← Array.toArray_toList (xs := Array.map _ _), Array.toList_map, Array.toList_range, List.range_eq_range'], h5]
        rfl
      · cases h
    · cases h
  · cases h
def encN (c : Cd) : Nat → List CV → (List c.den → Tr) → Tr
  | 0, [], K => K []
  | 0, _ :: _, _ => .no
  | m + 1, l, K => encC c l fun x r => encN c m r fun xs => K (x :: xs)
def EncN (bl : List BV) (c : Cd) : List CV → List c.den → Prop
  | l, [] => l = []
  | l, x :: xs => ∃ m, EncD bl c l x m ∧ EncN bl c m xs
theorem EncN.frz {a b : List BV} (h : FrzTo a b) {c : Cd} : ∀ {xs : List c.den} {l : List CV}, EncN a c l xs → EncN b c l xs
  | [], _, e => e
  | _ :: _, _, ⟨m, h1, h2⟩ => ⟨m, h1.frz h, h2.frz h⟩
theorem encN_told {c : Cd} : ∀ {m : Nat} {l : List CV} {K : List c.den → Tr} {bl : List BV}, Told f (encN c m l K) bl bl' v → ∃ xs bl1, Told f (K xs) bl1 bl' v ∧ FrzTo bl bl1 ∧ EncN bl1 c l xs ∧ xs.length = m
  | 0, [], K, bl, h => ⟨[], bl, h, .refl, rfl, rfl⟩
  | 0, _ :: _, K, bl, h => h.elim
  | m + 1, l, K, bl, h => by
    unfold encN at h
    obtain ⟨x, r, bl1, h2, h3, h4⟩ := encC_told c h
    obtain ⟨xs, bl2, h5, h6, h7, h8⟩ := encN_told h2
    exact ⟨x :: xs, bl2, h5, h3.trans h6, ⟨r, h4.frz h6, h7⟩, by rw [List.length_cons, h8]⟩
theorem EncN.real {c : Cd} (hr : Rl g ρ ⟨sl, bl⟩ own fr) : ∀ {xs : List c.den} {l : List CV} {cs : List Value}, EncN bl c l xs → All2 (RealC g ρ bl) l cs → Reps c.ty g.b cs xs
  | [], l, cs, e, h => by
    have e : l = [] := e
    subst e
    cases cs with
    | nil => rfl
    | cons _ _ => exact h.elim
  | x :: xs, l, cs, ⟨m, h1, h2⟩, h => by
    obtain ⟨c1, c2, e, h3, h4⟩ := h1.real hr c h
    exact ⟨c1, c2, e, h3, h2.real hr h4⟩
def tLit (P : Program) (sl : List (Nat × SV)) (f : Nat) (t : TypeId) (len : Nat) (parts : List (Nat × Operand)) : Tr := match rowOf P t, partsH sl parts with
  | some (c, et, _), some ps => (match rowH P t len ps with
    | some l => encN c len l fun xs => cond (Nat.ble len 140737488355328) (.done ⟨vC (.own f), [], [.row c et xs]⟩) .no
    | none => .no)
  | _, _ => .no
theorem effH_row {op : Op} {c : Cd} {et : TypeId} {xs : List c.den} (hf : bl[f]? = some .hole)
    (h : ∀ g ρ own fr, Rl g ρ ⟨sl, bl⟩ own fr → Eff P n g own fr op ty (fun v' g' own' => ∃ A c' k, v' = .slice A xs.length c' ∧ g = g' ∧ own' = k :: own ∧ Buf g.b c.ty et (.slice A xs.length c') k xs)) :
    EffH P n op ty sl bl (bl.set f (.row c et xs)) (vC (.own f)) := by
  intro o a w Q K g ρ own fr h1 h2 hr hfr hs hk
  refine h g ρ own fr hr o a w Q K h1 h2 hfr hs fun v g' own' w' hg hs' ⟨A, c', k, e1, e2, e3, hb⟩ => ?_
  subst e1; subst e2; subst e3
  have hno := hr.hole_none hf
  have hst : St w' g (own.set f k) := by
    cases k with
    | some k => exact hs'.fill hno
    | none =>
      have : own.set f none = own := set_same hno
      rw [this]
      exact hs'.fewer (by have := hs'.nodup; rwa [Own.ids_cons] at this) fun k hk => List.mem_cons_of_mem _ hk
  have hx : Ext ρ bl (setρ ρ f (A, c')) (bl.set f (.row c et xs)) := Ext.set_hole hf
  refine hk _ g (setρ ρ f (A, c')) _ w' (.refl g) hx hst (hr.lay (bv := .row c et xs) (k := k) (e := (A, c')) (.refl g) hf hb) ⟨known_set (get_lt hf) rfl, _, by rw [setρ_at], fun bv m e1 e2 => ?_⟩
  have e3 : (bl.set f (.row c et xs))[f]? = some (.row c et xs) := by simp [List.getElem?_set, get_lt hf]
  have e1 : (bl.set f (.row c et xs))[f]? = some bv := e1
  rw [e3] at e1; injection e1 with e1
  subst e1
  exact Option.some.inj e2
theorem tLit_ok {t : TypeId} {len : Nat} {parts : List (Nat × Operand)} (hf : bl[f]? = some .hole) (h : Told f (tLit P sl f t len parts) bl bl' v) : EffH P n (.buildSlice t len parts.toArray) ty sl bl bl' v := by
  unfold tLit at h
  split at h
  · rename_i c et by_ ps hrow hps
    obtain ⟨hu, _, _, _⟩ := rowOf_ok hrow
    split at h
    · rename_i l hl
      obtain ⟨xs, bl1, h2, hfz, hen, hlen⟩ := encN_told h
      obtain ⟨hle, h2⟩ := condT h2
      have hle := Nat.le_of_ble_eq_true hle
      obtain ⟨rfl, rfl⟩ := h2
      refine EffH.frz hfz (effH_row (hfz.hole hf) fun g ρ own fr hr => ?_)
      obtain ⟨pv, h3, h4⟩ := partsH_real hr hps
      obtain ⟨cs, h5, h6⟩ := rowH_real hu hl h4
      have hreps := hen.real hr h6
      intro o a w Q K e1 e2 hfr hs hk
      refine e_buildSlice pv cs (by simpa using h3) h5 o a w Q K e1 e2 hfr hs fun v' g' own' w' hg hs' ⟨b, e3, e4, e5⟩ => ?_
      refine hk v' g' own' w' hg hs' ⟨_, _, _, by rw [e3, hlen], e4, e5, ?_⟩
      rw [hlen]
      exact buf_lit hreps hlen hle
    · exact h.elim
  · exact h.elim
end
section
variable {P : Program} {n : Nat} {ty : TypeId} {sl : List (Nat × SV)} {bl bl' : List BV} {v : SV} {f : Nat} {g : Gh} {ρ : Env} {own : Own} {fr : Sl}
def bndH (sl : List (Nat × SV)) : Option Operand → Option (Option Int)
  | none => some none
  | some x => match evH sl x with | some (.v (.c (.int _ z))) => some (some z) | _ => none
def loN : Option Int → Nat | none => 0 | some z => z.toNat
def hiN (len : Nat) : Option Int → Nat | none => len | some z => z.toNat
def bndOk (len : Nat) : Option Int → Option Int → Bool
  | none, none => true
  | some l, none => decide (0 ≤ l ∧ l ≤ (len : Int))
  | none, some h => decide (0 ≤ h ∧ h ≤ (len : Int))
  | some l, some h => decide (0 ≤ l ∧ l ≤ h ∧ h ≤ (len : Int))
def cutL {α : Type} (xs : List α) : Option Int → Option Int → List α
  | none, none => xs
  | some l, none => xs.drop l.toNat
  | none, some h => xs.take h.toNat
  | some l, some h => (xs.drop l.toNat).take (h.toNat - l.toNat)
theorem cutL_eq {α : Type} (xs : List α) (lo hi : Option Int) : cutL xs lo hi = (xs.drop (loN lo)).take (hiN xs.length hi - loN lo) := by
  cases lo <;> cases hi <;> simp [cutL, loN, hiN]
  exact (List.take_of_length_le (by simp)).symm
theorem bndOk_of {len : Nat} {lo hi : Option Int} (h : bndOk len lo hi = true) : loN lo ≤ hiN len hi ∧ hiN len hi ≤ len ∧ (∀ z, lo = some z → z = ((z.toNat : Nat) : Int)) ∧ ∀ z, hi = some z → z = ((z.toNat : Nat) : Int) := by
  cases lo <;> cases hi <;> simp only [bndOk, decide_eq_true_eq] at h <;> simp only [loN, hiN]
  · exact ⟨Nat.zero_le _, Nat.le_refl _, (fun z e => by cases e), fun z e => by cases e⟩
  · exact ⟨Nat.zero_le _, by omega, (fun z e => by cases e), fun z e => by injection e with e; omega⟩
  · exact ⟨by omega, Nat.le_refl _, (fun z e => by injection e with e; omega), fun z e => by cases e⟩
  · exact ⟨by omega, by omega, (fun z e => by injection e with e; omega), fun z e => by injection e with e; omega⟩
theorem bnd_lo (hr : Rl g ρ ⟨sl, bl⟩ own fr) {lo : Option Operand} {z : Option Int} (h : bndH sl lo = some z) (hz : ∀ y, z = some y → y = ((y.toNat : Nat) : Int)) : (lo = none ∧ z = none) ∨ ∃ k y u, lo = some y ∧ z = some u ∧ evS fr y = some (.int k ((u.toNat : Nat) : Int)) := by
  cases lo with
  | none => injection h with h; exact .inl ⟨rfl, h.symm⟩
  | some y =>
    simp only [bndH] at h
    split at h
    · rename_i k u hu
      injection h with h; subst h
      obtain ⟨v, h1, rfl, _⟩ := evH_real hr hu
      exact .inr ⟨k, y, u, rfl, rfl, by rw [← hz u rfl]; exact h1⟩
    · cases h
def tSlice (P : Program) (sl : List (Nat × SV)) (t : TypeId) (x : Operand) (lo hi : Option Operand) : Tr := match P.underlying t, evH sl x, bndH sl lo, bndH sl hi with
  | some (.slice e), some (.v (.c (.ro c xs m))), some l, some h => (match cellsOfT P e with
    | some z => cond (Nat.beq z c.n) (.grd (bndOk xs.length l h) (retT (vC (.ro c (cutL xs l h) m)))) .no
    | none => .no)
  | some (.slice e), some (.v (.c (.own b))), some l, some h => (match cellsOfT P e with
    | some z => .need b fun
      | .row c _ xs => cond (Nat.beq z c.n) (.grd (bndOk xs.length l h) (retT (vC (.vw b c (loN l) (hiN xs.length h))))) .no
      | .fz c xs => cond (Nat.beq z c.n) (.grd (bndOk xs.length l h) (retT (vC (.vw b c (loN l) (hiN xs.length h))))) .no
      | _ => .no
    | none => .no)
  | some (.slice e), some (.v (.c (.k (.slice none 0 0)))), some l, some h => (match cellsOfT P e with
    | some _ => .grd (bndOk 0 l h) (retT (vC (.k (.slice none 0 0))))
    | none => .no)
  | some .string, some (.v (.c (.str xs))), some l, some h => .grd (bndOk xs.length l h) (retT (vC (.str (cutL xs l h))))
  | _, _, _, _ => .no
theorem y_sliceH {t e : TypeId} {x : Operand} {lo hi : Option Operand} {sz len c : Nat} {l h : Option Int} {A : Option Addr} {p : Psi} (hr : Rl g ρ ⟨sl, bl⟩ own fr) (hx : evS fr x = some (.slice A len c)) (ht : P.underlying t = some (.slice e)) (hs : cellsOfT P e = some sz)
    (hlo : bndH sl lo = some l) (hhi : bndH sl hi = some h) (hb : bndOk len l h = true) (hc : len ≤ c) : Yld P n p own fr (.slice t x lo hi none) ty (.slice (offA A c (loN l) sz) (hiN len h - loN l) (c - loN l)) := by
  obtain ⟨h1, h2, h3, h4⟩ := bndOk_of hb
  refine y_slice (loN l) (hiN len h) (hiN len h - loN l) hx ht hs ?_ ?_ h1 (Nat.le_trans h2 hc) rfl
  · rcases bnd_lo hr hlo h3 with ⟨rfl, rfl⟩ | ⟨k, y, u, rfl, rfl, h5⟩
    · exact .inl ⟨rfl, rfl⟩
    · exact .inr ⟨k, y, rfl, h5⟩
  · rcases bnd_lo hr hhi h4 with ⟨rfl, rfl⟩ | ⟨k, y, u, rfl, rfl, h5⟩
    · exact .inl ⟨rfl, rfl⟩
    · exact .inr ⟨k, y, rfl, h5⟩
theorem cutL_len {α : Type} {xs : List α} {l h : Option Int} (hb : bndOk xs.length l h = true) : (cutL xs l h).length = hiN xs.length h - loN l := by
  obtain ⟨h1, h2, _⟩ := bndOk_of hb
  rw [cutL_eq, List.length_take, List.length_drop]; omega
theorem run_sliceStr {w : World} {t : TypeId} {s : List UInt8} {lo hi : Option Value} {l h : Nat} (ht : P.underlying t = some .string)
    (hlo : (lo = none ∧ l = 0) ∨ ∃ k, lo = some (.int k (l : Int))) (hhi : (hi = none ∧ h = s.length) ∨ ∃ k, hi = some (.int k (h : Int))) (h1 : l ≤ h) (h2 : h ≤ s.length) :
    (Instr.sliceAt t (.string (mkS s)) lo hi none).run P w = .ok (.string (mkS ((s.drop l).take (h - l)))) w := by
  have hsz : (mkS s).size = s.length := mkS_size s
  have hb : (Instr.sliceBounds false (mkS s).size (mkS s).size lo hi none).run P w = .ok (l, h, s.length) w := by
    rw [hsz]
    have e1 : (0 : Int) ≤ (l : Int) ∧ (l : Int) ≤ (h : Int) := ⟨by omega, by omega⟩
    have e2 : (0 : Int) ≤ (h : Int) ∧ (h : Int) ≤ (s.length : Int) := ⟨by omega, by omega⟩
    rcases hlo with ⟨rfl, rfl⟩ | ⟨k, rfl⟩ <;> rcases hhi with ⟨rfl, rfl⟩ | ⟨k2, rfl⟩ <;> simp [Instr.sliceBounds, Instr.sliceBound, asIntOf, e1, e2, h1, h2]
  have hex : (mkS s).extract l h = mkS ((s.drop l).take (h - l)) := by
    apply ByteArray.ext
    rw [ByteArray.data_extract]
    show s.toArray.extract l h = ((s.drop l).take (h - l)).toArray
    rw [List.extract_toArray, List.extract_eq_take_drop]
  simp [Instr.sliceAt, Instr.slice, run_underlying ht, hb, hex]
theorem tSlice_ok {t : TypeId} {x : Operand} {lo hi : Option Operand} (h : Told f (tSlice P sl t x lo hi) bl bl' v) : EffH P n (.slice t x lo hi none) ty sl bl bl' v := by
  unfold tSlice at h
  split at h
  · rename_i e c xs m l r hu ex hlo hhi
    split at h
    · rename_i z hz
      obtain ⟨hc, hg, h⟩ := condT h
      obtain ⟨rfl, rfl⟩ := told_ret h
      have hc := Nat.eq_of_beq_eq_true hc
      subst hc
      refine .of_yld fun g ρ own fr hr => ?_
      obtain ⟨vx, hx1, A, cap, rfl, ha⟩ := evH_real hr ex
      have hcap : xs.length ≤ cap := by cases m <;> exact ha.cap
      refine ⟨_, ⟨_, _, rfl, ?_⟩, by rw [cutL_len hg]; exact y_sliceH hr hx1 hu hz hlo hhi hg hcap⟩
      obtain ⟨h1, h2, _⟩ := bndOk_of hg
      rw [cutL_eq]
      cases m with
      | true => have := Arr.cut ha (loN l) (hiN xs.length r) h1 h2; rwa [c.ty_n] at this
      | false => have := ArrM.cut ha (loN l) (hiN xs.length r) h1 h2; rwa [c.ty_n] at this
    · exact h.elim
  · rename_i e b l r hu ex hlo hhi
    split at h
    · rename_i z hz
      obtain ⟨bv, hb, h⟩ := h
      have key : ∀ (c : Cd) (xs : List c.den), (∃ bv, bl[b]? = some bv ∧ bv.len = some xs.length ∧ ((∃ et, bv = .row c et xs) ∨ bv = .fz c xs)) → Told f (cond (Nat.beq z c.n) (.grd (bndOk xs.length l r) (retT (vC (.vw b c (loN l) (hiN xs.length r))))) .no) bl bl' v → EffH P n (.slice t x lo hi none) ty sl bl bl' v := by
        rintro c xs ⟨bv, hb, hlen, hcase⟩ h
        obtain ⟨hc, hg, h⟩ := condT h
        obtain ⟨rfl, rfl⟩ := told_ret h
        have hc := Nat.eq_of_beq_eq_true hc
        subst hc
        obtain ⟨h1, h2, _⟩ := bndOk_of hg
        refine .of_yld fun g ρ own fr hr => ?_
        obtain ⟨vx, hx1, hkn, q, rfl, hl⟩ := evH_real hr ex
        have hl := hl _ _ hb hlen
        subst hl
        have hcap : xs.length ≤ (ρ b).2 := by
          obtain ⟨k0, hk, hB⟩ := hr.own_at hb
          rcases hcase with ⟨et, rfl⟩ | rfl
          · obtain ⟨A, c', e1, e2⟩ := Buf.val (hB : Buf g.b c.ty et (.slice (ρ b).1 xs.length (ρ b).2) k0 xs)
            injection e1 with _ _ e3
            rw [e3]; exact e2
          · exact hB.2.cap
        refine ⟨_, ⟨hkn, rfl, fun bv' m' e1 e2 => ?_⟩, y_sliceH hr hx1 hu hz hlo hhi hg hcap⟩
        rw [hb] at e1; injection e1 with e1; subst e1
        rw [hlen] at e2; injection e2 with e2
        omega
      dsimp only at h
      split at h
      · exact key _ _ ⟨_, hb, rfl, .inl ⟨_, rfl⟩⟩ h
      · exact key _ _ ⟨_, hb, rfl, .inr rfl⟩ h
      · exact h.elim
    · exact h.elim
  · rename_i e l r hu ex hlo hhi
    split at h
    case h_2 => exact h.elim
    rename_i m hm
    obtain ⟨hg, h⟩ := h
    obtain ⟨rfl, rfl⟩ := told_ret h
    obtain ⟨h1, h2, h3, h4⟩ := bndOk_of hg
    refine .of_yld fun g ρ own fr hr => ?_
    obtain ⟨vx, hx1, rfl, _⟩ := evH_real hr ex
    have hl0 : loN l = 0 := by omega
    have hh0 : hiN 0 r = 0 := by omega
    refine ⟨.slice none 0 0, ⟨rfl, rfl⟩, fun o a w e1 e2 hf hr' => ?_⟩
    have hlo' : (lo.map a.eval = none ∧ (0 : Nat) = 0) ∨ ∃ k, lo.map a.eval = some (.int k ((0 : Nat) : Int)) := by
      rcases bnd_lo hr hlo h3 with ⟨rfl, rfl⟩ | ⟨k, y, u, rfl, rfl, h5⟩
      · exact .inl ⟨rfl, rfl⟩
      · have : u.toNat = 0 := hl0
        rw [this] at h5
        exact .inr ⟨k, by simp [hf.ev h5]⟩
    have hhi' : (hi.map a.eval = none ∧ (0 : Nat) = 0) ∨ ∃ k, hi.map a.eval = some (.int k ((0 : Nat) : Int)) := by
      rcases bnd_lo hr hhi h4 with ⟨rfl, rfl⟩ | ⟨k, y, u, rfl, rfl, h5⟩
      · exact .inl ⟨rfl, rfl⟩
      · have : u.toNat = 0 := hh0
        rw [this] at h5
        exact .inr ⟨k, by simp [hf.ev h5]⟩
    have hb : (Instr.sliceBounds true 0 0 (lo.map a.eval) (hi.map a.eval) none).run P w = .ok (0, 0, 0) w := by
      rcases hlo' with ⟨e3, _⟩ | ⟨k, e3⟩ <;> rcases hhi' with ⟨e4, _⟩ | ⟨k2, e4⟩ <;> rw [e3, e4] <;> simp [Instr.sliceBounds, Instr.sliceBound, asIntOf]
    have : (Instr.sliceAt t (.slice none 0 0) (lo.map a.eval) (hi.map a.eval) none).run P w = .ok (.slice none 0 0) w := by
      simp [Instr.sliceAt, Instr.slice, run_underlying hu, hb, run_sizeOf_of hm]
    simp [execOp, e1, hf.ev hx1, this]
  · rename_i xs l r hu ex hlo hhi
    obtain ⟨hg, h⟩ := h
    obtain ⟨rfl, rfl⟩ := told_ret h
    obtain ⟨h1, h2, h3, h4⟩ := bndOk_of hg
    refine .of_yld fun g ρ own fr hr => ?_
    obtain ⟨vx, hx1, rfl, hx2⟩ := evH_real hr ex
    refine ⟨.string (mkS (cutL xs l r)), ⟨rfl, by rw [cutL_len hg]; omega⟩, fun o a w e1 e2 hf hr' => ?_⟩
    have := run_sliceStr (P := P) (w := w) (lo := lo.map a.eval) (hi := hi.map a.eval) (l := loN l) (h := hiN xs.length r) hu
      (by rcases bnd_lo hr hlo h3 with ⟨rfl, rfl⟩ | ⟨k, y, u, rfl, rfl, h5⟩
          · exact .inl ⟨rfl, rfl⟩
          · exact .inr ⟨k, by simp [hf.ev h5, loN]⟩)
      (by rcases bnd_lo hr hhi h4 with ⟨rfl, rfl⟩ | ⟨k, y, u, rfl, rfl, h5⟩
          · exact .inl ⟨rfl, rfl⟩
          · exact .inr ⟨k, by simp [hf.ev h5, hiN]⟩) h1 h2
    rw [cutL_eq]
    simp [execOp, e1, hf.ev hx1, this]
  · exact h.elim
def tLen (P : Program) (sl : List (Nat × SV)) (t : TypeId) (x : Operand) : Tr := match P.underlying t, evH sl x with
  | some (.slice _), some (.v (.c (.own b))) => .need b fun
    | .row _ _ xs => retT (vC (.int .i64 (xs.length : Int)))
    | .fz _ xs => retT (vC (.int .i64 (xs.length : Int)))
    | _ => .no
  | some (.slice _), some (.v (.c (.ro _ xs _))) => retT (vC (.int .i64 (xs.length : Int)))
  | some (.slice _), some (.v (.c (.vw b _ l h))) => .need b fun
    | .row _ _ _ => retT (vC (.int .i64 ((h - l : Nat) : Int)))
    | .fz _ _ => retT (vC (.int .i64 ((h - l : Nat) : Int)))
    | _ => .no
  | some (.slice _), some (.v (.c (.k (.slice none 0 0)))) => retT (vC (.int .i64 0))
  | some .string, some (.v (.c (.str xs))) => retT (vC (.int .i64 (xs.length : Int)))
  | some (.array n _), some (.v (.agg _)) => cond (Nat.ble n 1000000) (retT (vC (.int .i64 (n : Int)))) .no
  | _, _ => .no
def tCap (P : Program) (sl : List (Nat × SV)) (t : TypeId) (x : Operand) : Tr := match P.underlying t, evH sl x with
  | some (.slice _), some (.v (.c (.k (.slice none 0 0)))) => retT (vC (.int .i64 0))
  | _, _ => .no
theorem tCap_ok {t : TypeId} {x : Operand} (h : Told f (tCap P sl t x) bl bl' v) : EffH P n (.call { callee := .builtin .cap, args := #[x], argTypes := #[t] }) ty sl bl bl' v := by
  unfold tCap at h
  split at h
  · rename_i e hu ex
    obtain ⟨rfl, rfl⟩ := told_ret h
    refine .of_yld fun g ρ own fr hr => ?_
    obtain ⟨vx, hx1, rfl, _⟩ := evH_real hr ex
    refine ⟨_, ⟨rfl, inK_zero _⟩, fun o a w h1 h2 hf hr => ?_⟩
    simp [execOp, h1, resolve, invoke, builtin, hf.ev hx1, Builtin.cap_, run_underlying hu, goInt]
  · exact h.elim
theorem inK_len {m : Nat} (h : m ≤ 1125899906842624) : inK .i64 (m : Int) := by
  simp [inK, IntKind.min, IntKind.max, IntKind.signed, IntKind.bits]; omega
theorem y_lenH {t : TypeId} {x : Operand} {u : Value} {m : Nat} {p : Psi} (hx : evS fr x = some u) (h : ∀ w, (Builtin.len_ #[t] ty #[u]).run P w = .ok (.int .i64 (m : Int)) w) : Yld P n p own fr (.call { callee := .builtin .len, args := #[x], argTypes := #[t] }) ty (.int .i64 (m : Int)) := by
  intro o a w e1 e2 hf hr
  subst e2
  simp [execOp, e1, resolve, invoke, builtin, hf.ev hx, h]
theorem tLen_ok {t : TypeId} {x : Operand} (h : Told f (tLen P sl t x) bl bl' v) : EffH P n (.call { callee := .builtin .len, args := #[x], argTypes := #[t] }) ty sl bl bl' v := by
  unfold tLen at h
  split at h
  · rename_i e b hu ex
    obtain ⟨bv, hb, h⟩ := h
    have key : ∀ (m : Nat), bv.len = some m → Told f (retT (vC (.int .i64 (m : Int)))) bl bl' v → EffH P n (.call { callee := .builtin .len, args := #[x], argTypes := #[t] }) ty sl bl bl' v := by
      intro m hm h
      obtain ⟨rfl, rfl⟩ := told_ret h
      refine .of_yld fun g ρ own fr hr => ?_
      obtain ⟨vx, hx1, hkn, q, rfl, hl⟩ := evH_real hr ex
      have hl := hl _ _ hb hm
      subst hl
      have hle : q ≤ 140737488355328 := by
        obtain ⟨k0, hk, hB⟩ := hr.own_at hb
        cases bv <;> simp only [BV.len, Option.some.injEq, reduceCtorEq] at hm <;> subst hm
        · exact Buf.len hB
        · exact hB.2.len
      exact ⟨_, ⟨rfl, inK_len (by omega)⟩, y_lenH hx1 fun w => by simp [Builtin.len_, run_underlying hu, goInt]⟩
    dsimp only at h
    split at h
    · exact key _ rfl h
    · exact key _ rfl h
    · exact h.elim
  · rename_i e c xs m hu ex
    obtain ⟨rfl, rfl⟩ := told_ret h
    refine .of_yld fun g ρ own fr hr => ?_
    obtain ⟨vx, hx1, A, cap, rfl, ha⟩ := evH_real hr ex
    have hle : xs.length ≤ 140737488355328 := by cases m <;> exact ha.len
    exact ⟨_, ⟨rfl, inK_len (by omega)⟩, y_lenH hx1 fun w => by simp [Builtin.len_, run_underlying hu, goInt]⟩
  · rename_i e b c l r hu ex
    obtain ⟨bv, hb, h⟩ := h
    have key : ∀ (m : Nat), bv.len = some m → Told f (retT (vC (.int .i64 ((r - l : Nat) : Int)))) bl bl' v → EffH P n (.call { callee := .builtin .len, args := #[x], argTypes := #[t] }) ty sl bl bl' v := by
      intro m hm h
      obtain ⟨rfl, rfl⟩ := told_ret h
      refine .of_yld fun g ρ own fr hr => ?_
      obtain ⟨vx, hx1, hkn, rfl, hl⟩ := evH_real hr ex
      have hl := hl _ _ hb hm
      have hle : m ≤ 140737488355328 := by
        obtain ⟨k0, hk, hB⟩ := hr.own_at hb
        cases bv <;> simp only [BV.len, Option.some.injEq, reduceCtorEq] at hm <;> subst hm
        · exact Buf.len hB
        · exact hB.2.len
      exact ⟨_, ⟨rfl, inK_len (by omega)⟩, y_lenH hx1 fun w => by simp [Builtin.len_, run_underlying hu, goInt]⟩
    dsimp only at h
    split at h
    · exact key _ rfl h
    · exact key _ rfl h
    · exact h.elim
  · rename_i e hu ex
    obtain ⟨rfl, rfl⟩ := told_ret h
    refine .of_yld fun g ρ own fr hr => ?_
    obtain ⟨vx, hx1, rfl, _⟩ := evH_real hr ex
    exact ⟨_, ⟨rfl, inK_len (m := 0) (by decide)⟩, y_lenH hx1 fun w => by simp [Builtin.len_, run_underlying hu, goInt]⟩
  · rename_i xs hu ex
    obtain ⟨rfl, rfl⟩ := told_ret h
    refine .of_yld fun g ρ own fr hr => ?_
    obtain ⟨vx, hx1, rfl, hx2⟩ := evH_real hr ex
    exact ⟨_, ⟨rfl, inK_len hx2⟩, y_lenH hx1 fun w => by simp [Builtin.len_, run_underlying hu, goInt, mkS_size]⟩
  · rename_i m e l hu ex
    obtain ⟨hm, h⟩ := condT h
    have hm := Nat.le_of_ble_eq_true hm
    obtain ⟨rfl, rfl⟩ := told_ret h
    refine .of_yld fun g ρ own fr hr => ?_
    obtain ⟨vx, hx1, cs, rfl, _⟩ := evH_real hr ex
    exact ⟨_, ⟨rfl, inK_len (by omega)⟩, y_lenH hx1 fun w => by simp [Builtin.len_, run_underlying hu, goInt]⟩
  · exact h.elim
def tMM (b : Builtin) (sl : List (Nat × SV)) (x y : Operand) : Tr := asI sl x fun k a => asI sl y fun j c => match sameK j k, b with
  | some _, .max => retT (vC (.int k (maxI a c)))
  | some _, .min => retT (vC (.int k (minI a c)))
  | _, _ => .no
theorem tMM_ok {b : Builtin} {x y : Operand} {ats : Array TypeId} (h : Told f (tMM b sl x y) bl bl' v) : EffH P n (.call { callee := .builtin b, args := #[x, y], argTypes := ats }) ty sl bl bl' v := by
  obtain ⟨k, a, ex, h1⟩ := asI_told h
  obtain ⟨j, c, ey, h2⟩ := asI_told h1
  clear h h1
  split at h2
  · rename_i hk _; obtain ⟨hk⟩ := hk; subst hk
    obtain ⟨rfl, rfl⟩ := told_ret h2
    refine .of_yld fun g ρ own fr hr => ?_
    obtain ⟨vx, hx1, rfl, hx2⟩ := evH_real hr ex
    obtain ⟨vy, hy1, rfl, hy2⟩ := evH_real hr ey
    refine ⟨_, ⟨rfl, ?_⟩, fun o ac w e1 e2 hf hr => ?_⟩
    · unfold maxI; split
      · exact hy2
      · exact hx2
    · simp [execOp, e1, resolve, invoke, builtin, hf.ev hx1, hf.ev hy1, Builtin.max_, Builtin.max2, maxI]
  · rename_i hk _; obtain ⟨hk⟩ := hk; subst hk
    obtain ⟨rfl, rfl⟩ := told_ret h2
    refine .of_yld fun g ρ own fr hr => ?_
    obtain ⟨vx, hx1, rfl, hx2⟩ := evH_real hr ex
    obtain ⟨vy, hy1, rfl, hy2⟩ := evH_real hr ey
    refine ⟨_, ⟨rfl, ?_⟩, fun o ac w e1 e2 hf hr => ?_⟩
    · unfold minI; split
      · exact hy2
      · exact hx2
    · simp [execOp, e1, resolve, invoke, builtin, hf.ev hx1, hf.ev hy1, Builtin.min_, Builtin.min2, minI]
  · exact h2.elim
end
section
variable {P : Program} {n : Nat} {ty : TypeId} {sl : List (Nat × SV)} {bl bl' : List BV} {v : SV} {f : Nat} {g : Gh} {ρ : Env} {own : Own} {fr : Sl}
def tText (P : Program) (sl : List (Nat × SV)) (s d : TypeId) (x : Operand) : Tr := match P.underlying s, P.underlying d with
  | some (.slice e), some .string => (match P.underlying e, evH sl x with
    | some (.int .u8), some (.v (.c (.own b))) => .need b fun
      | .row .y _ xs => retT (vC (.str xs))
      | .fz .y xs => retT (vC (.str xs))
      | _ => .no
    | some (.int .u8), some (.v (.c (.ro .y xs _))) => retT (vC (.str xs))
    | some (.int .u8), some (.v (.c (.k (.slice none 0 0)))) => retT (vC (.str []))
    | _, _ => .no)
  | some (.slice e), some (.slice e2) => (match Nat.beq s d, P.underlying e2, evH sl x with
    | true, some (.int .u8), some (.v (.c (.own b))) => .need b fun
      | .row .y et xs => .grd (decide (0 < List.length (α := UInt8) xs)) (.done ⟨vC (.own b), [(b, .row .y et xs)], []⟩)
      | _ => .no
    | _, _, _ => .no)
  | _, _ => tConv P sl s d x
theorem ghostOf {w : World} {p : Psi} {own : Own} (h : Rdw w p own) : (⟨fun b => w.heap[b]?, w.os, w.tape, w.output⟩ : Psi).In w := ⟨rfl, rfl, rfl, fun b o h => h⟩
theorem y_textA {s d e : TypeId} {x : Operand} {A : Option Addr} {cap : Nat} {xs : List UInt8} (hx : evS fr x = some (.slice A xs.length cap)) (h : ArrM g.r g.b tyU8 A cap xs) (hs : P.underlying s = some (.slice e)) (he : P.underlying e = some (.int .u8)) (hd : P.underlying d = some .string) :
    Yld P n g.r own fr (.convert s d x) ty (.string (mkS xs)) := y_str hx (h.toArr g.br) hs he hd
theorem y_textB {s d e : TypeId} {x : Operand} {A : Option Addr} {cap : Nat} {xs : List UInt8} {k : Option Bk} {i : Nat} {et : TypeId} (hx : evS fr x = some (.slice A xs.length cap)) (hi : own[i]? = some k) (h : Buf g.b tyU8 et (.slice A xs.length cap) k xs) (hs : P.underlying s = some (.slice e)) (he : P.underlying e = some (.int .u8)) (hd : P.underlying d = some .string) :
    Yld P n g.r own fr (.convert s d x) ty (.string (mkS xs)) := by
  intro o a w h1 h2 hf hr
  have hk : ∀ b, k = some b → w.heap[b.g]? = some b.obj := fun b hb => by subst hb; exact hr.has b (List.mem_of_getElem? hi)
  have hp := ghostOf hr
  have hA : Arr (⟨fun b => w.heap[b]?, w.os, w.tape, w.output⟩ : Psi) tyU8 A cap xs := by
    have hle : g.b.le (⟨fun b => w.heap[b]?, w.os, w.tape, w.output⟩ : Psi) := ⟨hr.r.os.trans g.br.os, hr.r.tape.trans g.br.tape, hr.r.out.trans g.br.out, fun b o e => hr.r.m b o (g.br.m b o e)⟩
    exact arr_of_buf (h.mono hle) (.refl _) fun b hb => hk b hb
  exact y_str (own := own) hx hA hs he hd o a w h1 h2 hf ⟨hp, hr.has⟩
theorem eCvM {α : Type} {T : Ty α} {op : Op} (io : Nat) {et : TypeId} {A : Option Addr} {c : Nat} {k : Option Bk} {xs : List α} (hb : Buf g.b T et (.slice A xs.length c) k xs) (h0 : 0 < xs.length) (hc : cvC P fr op = some (A, xs.length, c)) (hi : own[io]? = some k) :
    Eff P n g own fr op ty (fun v g' own' => v = .slice A xs.length c ∧ g = g' ∧ ∃ k', own' = own.set io k' ∧ Buf g.b T et (.slice A xs.length c) k' xs) := by
  intro o a w Q K h1 h2 hf hs h
  unfold cvC at hc
  split at hc
  · rename_i s d x
    split at hc
    · rename_i A' l' c' e0 e e1 e2 e3
      split at hc
      · rename_i q1 q2
        simp only [Option.some.injEq, Prod.mk.injEq] at hc
        obtain ⟨rfl, rfl, rfl⟩ := hc
        rcases hb.2 with ⟨_, rfl, _⟩ | ⟨b, cap, cs, sp, p1, p2, p3, p4, p5⟩
        · simp at h0
        · injection p1 with r1 r2 r3
          subst r1; subst r3
          rcases p2 with rfl | rfl
          all_goals
          have hh := hs.has _ (Own.get_mem hi)
          simp only [Bk.obj] at hh
          have hshape : w.shape? b = some (et, (cs ++ sp).length) := by simp [World.shape?, hh]
          have hst := hs.put (w' := w.freeze ⟨b, (cs ++ sp).length, none⟩ 1) (k' := ⟨b, .ms et, cs ++ sp⟩) hi rfl (by simp [World.freeze]) (by simp [World.freeze]) (by simp [World.freeze])
            (fun b' hne => by simp [World.freeze, Array.getElem?_modify, Ne.symm hne]) (by simp [World.freeze, Array.getElem?_modify, hh, Bk.obj])
          have hrun : (execOp a.eval o).run P w = .ok (.value (.slice (some ⟨b, 0, none⟩) xs.length c')) (w.freeze ⟨b, (cs ++ sp).length, none⟩ 1) := by
            have e4 : (convert s d (.slice (some ⟨b, 0, none⟩) xs.length c')).run P w = .ok (.slice (some ⟨b, 0, none⟩) xs.length c') (w.freeze ⟨b, (cs ++ sp).length, none⟩ 1) := by
              have hsh : (shape b).run P w = .ok (some (et, (cs ++ sp).length)) w := by simp [shape, Sem.run, hshape]
              have hfr : (freeze ⟨b, (cs ++ sp).length, none⟩ 1).run P w = .ok () (w.freeze ⟨b, (cs ++ sp).length, none⟩ 1) := by simp [freeze, Sem.run]
              simp only [convert, run_underlying e2, run_underlying e3, run_underlying q2, q1, Sem.run_bind, Result.andThen_ok, markStringish, hsh, hfr, Sem.run_pure]
            simp only [execOp, h1, hf.ev e1]
            simp [e4]
          unfold Oper.wp
          rw [hrun]
          exact h _ _ _ _ (.refl g) hst ⟨rfl, rfl, _, rfl, hb.1, .inr ⟨b, c', cs, sp, rfl, .inr rfl, p3, p4, p5⟩⟩
      · cases hc
    · cases hc
  · cases hc
theorem tText_ok {s d : TypeId} {x : Operand} (h : Told f (tText P sl s d x) bl bl' v) : EffH P n (.convert s d x) ty sl bl bl' v := by
  unfold tText at h
  split at h
  · rename_i e hs hd
    split at h
    · rename_i b he ex
      obtain ⟨bv, hb, h⟩ := h
      dsimp only at h
      split at h
      · rename_i et xs
        obtain ⟨rfl, rfl⟩ := told_ret h
        refine .of_yld fun g ρ own fr hr => ?_
        obtain ⟨vx, hx1, hkn, q, rfl, hl⟩ := evH_real hr ex
        have hl := hl _ _ hb rfl
        subst hl
        obtain ⟨k0, hk, hB⟩ := hr.own_at hb
        have hB : Buf g.b tyU8 et (.slice (ρ b).1 (List.length (α := UInt8) xs) (ρ b).2) k0 xs := hB
        exact ⟨_, ⟨rfl, (Nat.le_trans (Buf.len hB) (by decide))⟩, y_textB hx1 hk hB hs he hd⟩
      · rename_i xs
        obtain ⟨rfl, rfl⟩ := told_ret h
        refine .of_yld fun g ρ own fr hr => ?_
        obtain ⟨vx, hx1, hkn, q, rfl, hl⟩ := evH_real hr ex
        have hl := hl _ _ hb rfl
        subst hl
        obtain ⟨k0, hk, _, hB⟩ := hr.own_at hb
        have hB : Arr g.b tyU8 (ρ b).1 (ρ b).2 xs := hB
        exact ⟨_, ⟨rfl, (Nat.le_trans hB.len (by decide))⟩, y_textA hx1 (Arr.toM hB g.br) hs he hd⟩
      · exact h.elim
    · rename_i xs m he ex
      obtain ⟨rfl, rfl⟩ := told_ret h
      refine .of_yld fun g ρ own fr hr => ?_
      obtain ⟨vx, hx1, A, cap, rfl, ha⟩ := evH_real hr ex
      cases m with
      | true =>
        have ha : Arr g.b tyU8 A cap xs := ha
        exact ⟨_, ⟨rfl, (Nat.le_trans ha.len (by decide))⟩, y_textA hx1 (Arr.toM ha g.br) hs he hd⟩
      | false =>
        have ha : ArrM g.r g.b tyU8 A cap xs := ha
        exact ⟨_, ⟨rfl, (Nat.le_trans ha.len (by decide))⟩, y_textA hx1 ha hs he hd⟩
    · rename_i he ex
      obtain ⟨rfl, rfl⟩ := told_ret h
      refine .of_yld fun g ρ own fr hr => ?_
      obtain ⟨vx, hx1, rfl, _⟩ := evH_real hr ex
      exact ⟨_, ⟨rfl, by simp⟩, y_textA (xs := []) hx1 ArrM.nil hs he hd⟩
    · exact h.elim
  · rename_i e e2 hs hd
    split at h
    · rename_i b hsd he ex
      obtain ⟨bv, hb, h⟩ := h
      dsimp only at h
      split at h
      · rename_i et xs
        obtain ⟨hg, h⟩ := h
        have h0 := of_decide_eq_true hg
        obtain ⟨rfl, rfl⟩ := h
        have hsd := Nat.eq_of_beq_eq_true hsd
        subst hsd
        intro o a w Q K g ρ own fr h1 h2 hr hfr hst hk
        obtain ⟨vx, hx1, hkn, q, rfl, hl⟩ := evH_real hr ex
        have hl := hl _ _ hb rfl
        subst hl
        obtain ⟨k0, hk0, hB⟩ := hr.own_at hb
        have hB : Buf g.b tyU8 et (.slice (ρ b).1 (List.length (α := UInt8) xs) (ρ b).2) k0 xs := hB
        have hc : cvC P fr (.convert s s x) = some ((ρ b).1, List.length (α := UInt8) xs, (ρ b).2) := by
          unfold cvC
          simp [hx1, hd, he]
          rfl
        refine eCvM (P := P) b hB h0 hc hk0 o a w Q K h1 h2 hfr hst fun v g' own' w' hg' hs' ⟨e1, e2, k', e3, hB'⟩ => ?_
        subst e1; subst e2; subst e3
        have hx : Ext ρ bl ρ (bl.set b (.row .y et xs)) := Ext.set_at hb rfl fun m hm => hm
        have hrl := hr.setB (g' := g) (bv1 := .row .y et xs) (k := k') (.refl g) hb rfl (fun m hm => hm) hB'
        exact hk _ g ρ _ w' (.refl g) hx hs' hrl (RealC.ext (.refl g) hx (x := .own b) ⟨hkn, _, rfl, fun bv m e1 e2 => by rw [hb] at e1; injection e1 with e1; subst e1; injection e2 with e2⟩)
      · exact h.elim
    · exact h.elim
  · exact tConv_ok h
def tIndex (P : Program) (sl : List (Nat × SV)) (t : TypeId) (x i : Operand) : Tr := asI sl i fun _ z => match P.underlying t, evH sl x with
  | some .string, some (.v (.c (.str xs))) => .grd (decide (0 ≤ z ∧ z < (xs.length : Int))) (retT (vC (.int .u8 ((xs.getD z.toNat 0).toNat : Int))))
  | some (.array len e), some (.v (.agg l)) => (match cellsOfT P e with
    | some m => splitZ z (fun i => readT P e l (i * m)) len 0
    | none => .no)
  | _, _ => .no
theorem tIndex_ok {t : TypeId} {x i : Operand} (h : Told f (tIndex P sl t x i) bl bl' v) : EffH P n (.index t x i) ty sl bl bl' v := by
  obtain ⟨k, z, ei, h⟩ := asI_told h
  split at h
  · rename_i xs hu ex
    obtain ⟨hg, h⟩ := h
    obtain ⟨rfl, rfl⟩ := told_ret h
    obtain ⟨hz, hlt⟩ := idx_of hg
    refine .of_yld fun g ρ own fr hr => ?_
    obtain ⟨vx, hx1, rfl, _⟩ := evH_real hr ex
    obtain ⟨vi', hi1, rfl, _⟩ := evH_real hr ei
    refine ⟨_, ⟨rfl, inK_u8 _⟩, fun o a w e1 e2 hf hr => ?_⟩
    have hge : (0 : Int) ≤ z := by omega
    have hb : (mkS xs)[z.toNat]? = some (xs.getD z.toNat 0) := by
      have h1 : z.toNat < (mkS xs).size := by rw [mkS_size]; exact hlt
      rw [getElem?_pos (mkS xs) z.toNat h1]
      congr 1
      rw [List.getD_eq_getElem?_getD, List.getElem?_eq_getElem hlt]
      rfl
    have : (Instr.index t (.string (mkS xs)) (.int k z)).run P w = .ok (.int .u8 ((xs.getD z.toNat 0).toNat : Int)) w := by
      simp only [Instr.index, asIntOf, run_underlying hu, Sem.run_bind, Sem.run_pure, Result.andThen_ok, if_pos hge, hb]
    simp [execOp, e1, hf.ev hx1, hf.ev hi1, this]
  · rename_i len e l hu ex
    split at h
    · rename_i m hm
      obtain ⟨j, hlt, ez, hj⟩ := splitZ_told h
      subst ez
      obtain ⟨rfl, e1⟩ := readT_told hj
      refine .of_yld fun g ρ own fr hr => ?_
      obtain ⟨vx, hx1, cs, rfl, hx2⟩ := evH_real hr ex
      obtain ⟨vi', hi1, rfl, _⟩ := evH_real hr ei
      obtain ⟨u, h1, h2⟩ := readL_part e1 hx2
      refine ⟨u, h1, fun o a w e1 e2 hf hr => ?_⟩
      have hr0 : (0 : Int) ≤ (j : Int) ∧ (j : Int) < (len : Int) := by omega
      have h2 : ∀ w, (part e cs.toArray ((j : Int).toNat * m)).run P w = .ok u w := h2
      have : (Instr.index t (.agg cs.toArray) (.int k (j : Int))).run P w = .ok u w := by
        simp only [Instr.index, asIntOf, run_underlying hu, Sem.run_bind, Sem.run_pure, Result.andThen_ok, if_pos hr0, run_sizeOf_of hm, h2]
      simp [execOp, e1, hf.ev hx1, hf.ev hi1, this]
    · exact h.elim
  · exact h.elim
def capH (sl : List (Nat × SV)) : CV → List Operand → Option CV
  | c, [] => some c
  | c, x :: l => match evH sl x with | some (.v (.c y)) => capH sl (.cap c y) l | _ => none
def tFn (sl : List (Nat × SV)) (fn : Fn) (first captured : List Operand) : Tr := match fn, first with
  | .func f, [] => (match capH sl (.fn f) captured with | some c => retT (vC c) | none => .no)
  | .func f, [x] => (match captured, evH sl x with | [], some (.v (.c c)) => retT (vC (.bnd f c)) | _, _ => .no)
  | _, _ => .no
theorem capH_real (hr : Rl g ρ ⟨sl, bl⟩ own fr) {a : Act} (hf : Fr n a fr) : ∀ {l : List Operand} {c c' : CV} {f0 : Fn} {caps : List Value}, capH sl c l = some c' → RealC g ρ bl c (.func f0 #[] caps.toArray) → RealC g ρ bl c' (.func f0 #[] (caps ++ l.map a.eval).toArray)
  | [], c, c', f0, caps, h, hc => by injection h with h; subst h; simpa using hc
  | x :: l, c, c', f0, caps, h, hc => by
    unfold capH at h
    split at h
    · rename_i y hy
      obtain ⟨u, h1, h2⟩ := evH_real hr hy
      have := capH_real hr hf (f0 := f0) (caps := caps ++ [u]) h ⟨f0, caps.toArray, u, hc, h2, by simp⟩
      rw [List.map_cons, hf.ev h1]
      simpa using this
    · cases h
theorem tFn_ok {fn : Fn} {first captured : List Operand} (h : Told f (tFn sl fn first captured) bl bl' v) : EffH P n (.makeFunc fn first.toArray captured.toArray) ty sl bl bl' v := by
  unfold tFn at h
  split at h
  · rename_i f0
    split at h
    · rename_i c hc
      obtain ⟨rfl, rfl⟩ := told_ret h
      intro o a w Q K g ρ own fr h1 h2 hr hf hs hk
      have hv := capH_real hr hf (caps := []) (f0 := .func f0) hc rfl
      have hrun : (execOp a.eval o).run P w = .ok (.value (.func (.func f0) #[] (captured.map a.eval).toArray)) w := by
        simp [execOp, h1, Instr.makeFunc]
      unfold Oper.wp
      rw [hrun]
      simp only [Oper.upon]
      rw [List.nil_append] at hv
      exact hk _ g ρ own w (.refl g) .refl hs hr hv
    · exact h.elim
  · rename_i f0 x
    split at h
    · rename_i c ex
      obtain ⟨rfl, rfl⟩ := told_ret h
      intro o a w Q K g ρ own fr h1 h2 hr hf hs hk
      obtain ⟨u, hu, hc⟩ := evH_real hr ex
      have hrun : (execOp a.eval o).run P w = .ok (.value (.func (.func f0) #[u] #[])) w := by
        simp [execOp, h1, Instr.makeFunc, hf.ev hu]
      unfold Oper.wp
      rw [hrun]
      exact hk _ g ρ own w (.refl g) .refl hs hr ⟨u, hc, rfl⟩
    · exact h.elim
  · exact h.elim
def concT (P : Program) (t : TypeId) : Bool := match P.underlying t with
  | some (.interface _) => false
  | some _ => true
  | none => false
def tIfc (P : Program) (sl : List (Nat × SV)) (t : TypeId) (x : Operand) : Tr := match evH sl x, concT P t with
  | some (.v (.c c)), true => retT (vC (.ifc t c))
  | _, _ => .no
theorem tIfc_ok {t : TypeId} {x : Operand} (h : Told f (tIfc P sl t x) bl bl' v) : EffH P n (.makeInterface t x) ty sl bl bl' v := by
  unfold tIfc at h
  split at h
  · rename_i c ex hc
    obtain ⟨rfl, rfl⟩ := told_ret h
    refine .of_yld fun g ρ own fr hr => ?_
    obtain ⟨vx, hx1, hx2⟩ := evH_real hr ex
    refine ⟨.iface t vx, ⟨vx, hx2, rfl⟩, fun o ac w e1 e2 hf hr => ?_⟩
    have hm : (Instr.makeInterface t vx).run P w = .ok (.iface t vx) w := by
      unfold concT at hc
      cases hu : P.underlying t with
      | none => rw [hu] at hc; cases hc
      | some td =>
        rw [hu] at hc
        cases td <;> first | (cases hc; done) | simp [Instr.makeInterface, run_underlying hu]
    simp [execOp, e1, hf.ev hx1, hm]
  · exact h.elim
def sameT : Operand → Operand → Bool
  | .tmp a, .tmp b => Nat.beq a b
  | _, _ => false
theorem sameT_eq {x y : Operand} (h : sameT x y = true) : x = y := by
  cases x with
  | tmp a => cases y with
    | tmp b => rw [Nat.eq_of_beq_eq_true h]
    | _ => cases h
  | _ => cases h
def tMake (P : Program) (sl : List (Nat × SV)) (f : Nat) (t : TypeId) (x y : Operand) : Tr := match rowOf P t with
  | some (c, et, bytes) => asI sl x fun _ z => asI sl y fun _ z' => (match zeroOf P et with
    | some zs => (match constL zs.toList with
      | some l => .grd (sameT x y || decide (z = z')) (encC c l fun u r => .grd (decide (0 ≤ z ∧ z * bytes ≤ 140737488355328)) (.done ⟨vC (.own f), [], [.row c et (List.replicate z.toNat u)]⟩))
      | none => .no)
    | none => .no)
  | none => .no
theorem tMake_ok {t : TypeId} {x y : Operand} (hf : bl[f]? = some .hole) (h : Told f (tMake P sl f t x y) bl bl' v) : EffH P n (.makeSlice t x y) ty sl bl bl' v := by
  unfold tMake at h
  split at h
  · rename_i c et bytes hrow
    obtain ⟨hu, happ, _, hby⟩ := rowOf_ok hrow
    obtain ⟨k, z, ex, h0⟩ := asI_told h
    obtain ⟨k', z', ey, h1⟩ := asI_told h0
    clear h h0
    split at h1
    · rename_i zs hzs
      split at h1
      · rename_i l hl
        obtain ⟨hxy, h1⟩ := h1
        have hxy : z = z' := by
          cases hs : sameT x y with
          | true =>
            have := sameT_eq hs
            subst this
            rw [ex] at ey; injection ey with ey; injection ey with ey; injection ey with ey; injection ey
          | false => rw [hs, Bool.false_or] at hxy; exact of_decide_eq_true hxy
        subst hxy
        obtain ⟨u, r, bl1, h2, hfz, henc⟩ := encC_told c h1
        clear h1
        obtain ⟨hg, rfl, rfl⟩ := h2
        have hg := of_decide_eq_true hg
        refine EffH.frz hfz (effH_row (hfz.hole hf) fun g ρ own fr hr => ?_)
        obtain ⟨vx, hx1, rfl, _⟩ := evH_real hr ex
        obtain ⟨vy, hy1, rfl, _⟩ := evH_real hr ey
        have hz : z = ((z.toNat : Nat) : Int) := by omega
        have hall := constL_real (g := g) (ρ := ρ) (bl := bl1) hl
        obtain ⟨c1, c2, e1, e2, e3⟩ := henc.real hr c hall
        have hl1 : zs.toList.length = c.n := by
          have h1 := happ
          unfold appT at h1
          unfold zeroOf at hzs
          split at h1
          · rename_i e' i hu' hi
            split at h1
            · rename_i z0 hz0
              split at h1
              · rename_i hcnd
                simp only [Option.some.injEq, Prod.mk.injEq] at h1
                rw [hi] at hzs
                simp only [Option.bind_some, hz0, Option.map_some, Option.some.injEq] at hzs
                rw [← hzs, Array.length_toList, hcnd.2, h1.1, c.ty_n]
              · cases h1
            · cases h1
          · cases h1
        have hl2 : c1.length = c.n := by rw [c.ty.len e2, c.ty_n]
        have hc20 : c2 = [] := by
          have : zs.toList.length = c1.length + c2.length := by rw [e1, List.length_append]
          exact List.eq_nil_of_length_eq_zero (by omega)
        rw [hc20, List.append_nil] at e1
        have hbm : bytes * z.toNat ≤ 140737488355328 := by
          have : ((bytes * z.toNat : Nat) : Int) ≤ ((140737488355328 : Nat) : Int) := by
            rw [Int.natCast_mul, ← hz, Int.mul_comm]; exact hg.2
          exact Int.ofNat_le.1 this
        have hmz : z.toNat ≤ 140737488355328 := Nat.le_trans (Nat.le_mul_of_pos_left _ hby) hbm
        intro o a w Q K h1 h2 hfr hs hk
        refine e_make (T := c.ty) z.toNat (zs := c1) (z := u) happ (by rw [← hz]; exact hx1) (by rw [← hz]; exact hy1) (by rw [hzs, ← e1]) e2 (by omega) hmz o a w Q K h1 h2 hfr hs fun v' g' own' w' hg' hs' ⟨b, cs, e4, e5, e6, e7, e8⟩ => ?_
        exact hk v' g' own' w' hg' hs' ⟨_, _, _, by rw [e4, List.length_replicate], e5, e6, by rw [List.length_replicate]; exact e8⟩
      · exact h1.elim
    · exact h1.elim
  · exact h.elim
end
section
variable {α : Type} {P : Program} {n : Nat} {T : Ty α} {p : Psi} {g : Gh} {own : Own} {sl : Sl} {ty : TypeId}
theorem made_reps {zs : List Value} {z : α} (hr : T.rep p zs z) : ∀ m : Nat, Reps T p (madeCells zs.toArray (m * T.n)).toList (List.replicate m z) := by
  intro m
  induction m with
  | zero => simp [madeCells]; rfl
  | succ m ih =>
    have e : (madeCells zs.toArray ((m + 1) * T.n)).toList = zs ++ (madeCells zs.toArray (m * T.n)).toList := by
      have hzl : zs.length = T.n := T.len hr
      apply List.ext_getElem?
      intro j
      rw [List.getElem?_append]
      simp only [madeCells, Array.toList_map, Array.toList_range, List.getElem?_map]
      by_cases hj : j < zs.length
      · rw [if_pos hj]
        have hj2 : j < (m + 1) * T.n := by rw [Nat.succ_mul]; omega
        rw [List.getElem?_range hj2]
        simp only [Option.map_some, List.size_toArray, Nat.mod_eq_of_lt hj]
        rw [List.getElem?_eq_getElem hj]
        simp [hj]
      · rw [if_neg hj]
        by_cases hj2 : j < (m + 1) * T.n
        · have hj3 : j - zs.length < m * T.n := by rw [Nat.succ_mul] at hj2; omega
          rw [List.getElem?_range hj2, List.getElem?_range hj3]
          simp only [Option.map_some, List.size_toArray]
          congr 2
          exact (Nat.mod_eq_sub_mod (by omega))
        · have hj3 : ¬ j - zs.length < m * T.n := by rw [Nat.succ_mul] at hj2; omega
          rw [List.getElem?_eq_none (by simpa using hj2), List.getElem?_eq_none (by simpa using hj3)]
    rw [e, List.replicate_succ]
    exact ⟨zs, _, rfl, hr, ih⟩
theorem e_zerosF {t tn et : TypeId} {s x : Operand} {kx kn : IntKind} {bytes : Nat} (m : Nat) {zs : List Value} {z : α} (ha : appT P t et = some (T.n, bytes)) (htn : P.underlying tn = some (.int kn)) (hs : evS sl s = some (.slice none 0 0)) (hx : evS sl x = some (.int kx (m : Int)))
    (h0 : 0 < m) (hz : zeroOf P et = some zs.toArray) (hr : T.rep p zs z) (hbytes : m * bytes ≤ 140737488355328) (hm : m ≤ 140737488355328) :
    Eff P n g own sl (.call { callee := .builtin .append, args := #[s, x], argTypes := #[t, tn] }) ty (fun v' g' own' => ∃ b cap k, v' = .slice (some ⟨b, 0, none⟩) m cap ∧ g = g' ∧ own' = k :: own ∧ Buf p T et (.slice (some ⟨b, 0, none⟩) (List.replicate m z).length cap) k (List.replicate m z)) := by
  intro o a w Q K h1 h2 hf hst h
  obtain ⟨inf, z0, ht, hinf, hz0, hsz, hby, hzs⟩ := (AppT.of ha).out
  have hzc : z0.cells = zs.toArray := by
    unfold zeroOf at hz
    rw [hinf] at hz
    simpa [hz0] using hz
  have hrun := Lib.run_append_nil_zeros (P := P) w t tn o.type et inf z0 kx kn ht htn hinf hz0 m h0 (by rw [hsz]; exact T.pos) (by omega) (by rw [hby]; exact wide47 hbytes)
  have hge := grownCap_ge w m 0 et
  have hle : grownCap w m 0 et ≤ maxLen := grownCap_le_maxLen w m 0 et (by simp only [maxLen]; omega)
  generalize grownCap w m 0 et = cap at hrun hge hle
  have hlen : (Builtin.zeroCells z0.cells m ++ Builtin.zeroCells z0.cells (cap - m)).toList.length = cap * T.n := by
    simp only [Array.toList_append, List.length_append, Array.length_toList, size_zeroCells, hzs, ← Nat.add_mul]
    congr 1
    omega
  have hrep : Reps T p (Builtin.zeroCells z0.cells m).toList (List.replicate m z) := by
    have e : Builtin.zeroCells z0.cells m = madeCells zs.toArray (m * T.n) := by
      rw [← hzs, hzc]
      rfl
    rw [e]
    exact made_reps hr m
  have hal := (hst.drew).alloc et (Builtin.zeroCells z0.cells m ++ Builtin.zeroCells z0.cells (cap - m)).toList
  rw [Array.toArray_toList] at hal
  have : (execOp a.eval o).run P w = .ok (.value (.slice (some ⟨w.heap.size, 0, none⟩) m cap)) (w.drew.alloc (.cells (Builtin.zeroCells z0.cells m ++ Builtin.zeroCells z0.cells (cap - m)) et)) := by
    simp [execOp, h1, resolve, invoke, builtin, hf.ev hs, hf.ev hx, hrun]
  unfold Oper.wp
  rw [this]
  exact h _ _ _ _ (.refl g) hal ⟨_, _, _, rfl, rfl, rfl, by rw [List.length_replicate]; exact hm, .inr ⟨w.heap.size, cap, (Builtin.zeroCells z0.cells m).toList, (Builtin.zeroCells z0.cells (cap - m)).toList, by rw [List.length_replicate], .inl (by rw [Array.toList_append]; rfl), hrep, by rw [← Array.toList_append]; exact hlen, hle⟩⟩
end
section
variable {P : Program} {n : Nat} {ty : TypeId} {sl : List (Nat × SV)} {bl bl' : List BV} {v : SV} {f : Nat} {g : Gh} {ρ : Env} {own : Own} {fr : Sl}
def tAppZ (P : Program) (sl : List (Nat × SV)) (f : Nat) (t tn : TypeId) (s x : Operand) : Tr := match rowOf P t, P.underlying tn, evH sl s with
  | some (c, et, bytes), some (.int _), some (.v (.c (.k (.slice none 0 0)))) => asI sl x fun _ z => (match zeroOf P et with
    | some zs => (match constL zs.toList with
      | some l => encC c l fun u r => .grd (decide (0 < z ∧ z * bytes ≤ 140737488355328)) (.done ⟨vC (.own f), [], [.row c et (List.replicate z.toNat u)]⟩)
      | none => .no)
    | none => .no)
  | _, _, _ => .no
theorem tAppZ_ok {t tn : TypeId} {s x : Operand} (hf : bl[f]? = some .hole) (h : Told f (tAppZ P sl f t tn s x) bl bl' v) : EffH P n (.call { callee := .builtin .append, args := #[s, x], argTypes := #[t, tn] }) ty sl bl bl' v := by
  unfold tAppZ at h
  split at h
  · rename_i c et bytes kn hrow htn es
    obtain ⟨hu, happ, _, hby⟩ := rowOf_ok hrow
    obtain ⟨k, z, ex, h0⟩ := asI_told h
    have h1 := h0
    clear h h0
    split at h1
    · rename_i zs hzs
      split at h1
      · rename_i l hl
        obtain ⟨u, r, bl1, h2, hfz, henc⟩ := encC_told c h1
        clear h1
        obtain ⟨hg, rfl, rfl⟩ := h2
        have hg := of_decide_eq_true hg
        refine EffH.frz hfz (effH_row (hfz.hole hf) fun g ρ own fr hr => ?_)
        obtain ⟨vx, hx1, rfl, _⟩ := evH_real hr ex
        obtain ⟨vy, hy1, rfl, _⟩ := evH_real hr es
        have hz : z = ((z.toNat : Nat) : Int) := by omega
        have hall := constL_real (g := g) (ρ := ρ) (bl := bl1) hl
        obtain ⟨c1, c2, e1, e2, e3⟩ := henc.real hr c hall
        have hl1 : zs.toList.length = c.n := by
          have h1 := happ
          unfold appT at h1
          unfold zeroOf at hzs
          split at h1
          · rename_i e' i hu' hi
            split at h1
            · rename_i z0 hz0
              split at h1
              · rename_i hcnd
                simp only [Option.some.injEq, Prod.mk.injEq] at h1
                rw [hi] at hzs
                simp only [Option.bind_some, hz0, Option.map_some, Option.some.injEq] at hzs
                rw [← hzs, Array.length_toList, hcnd.2, h1.1, c.ty_n]
              · cases h1
            · cases h1
          · cases h1
        have hl2 : c1.length = c.n := by rw [c.ty.len e2, c.ty_n]
        have hc20 : c2 = [] := by
          have : zs.toList.length = c1.length + c2.length := by rw [e1, List.length_append]
          exact List.eq_nil_of_length_eq_zero (by omega)
        rw [hc20, List.append_nil] at e1
        have hbm : bytes * z.toNat ≤ 140737488355328 := by
          have : ((bytes * z.toNat : Nat) : Int) ≤ ((140737488355328 : Nat) : Int) := by
            rw [Int.natCast_mul, ← hz, Int.mul_comm]; exact hg.2
          exact Int.ofNat_le.1 this
        have hmz : z.toNat ≤ 140737488355328 := Nat.le_trans (Nat.le_mul_of_pos_left _ hby) hbm
        intro o a w Q K h1 h2 hfr hs hk
        refine e_zerosF (T := c.ty) z.toNat (zs := c1) (z := u) happ htn hy1 (by rw [← hz]; exact hx1) (by omega) (by rw [hzs, ← e1]) e2 (by rw [Nat.mul_comm]; exact hbm) hmz o a w Q K h1 h2 hfr hs fun v' g' own' w' hg' hs' ⟨b, cap, k, e4, e5, e6, e8⟩ => ?_
        exact hk v' g' own' w' hg' hs' ⟨_, _, _, by rw [e4, List.length_replicate], e5, e6, e8⟩
      · exact h1.elim
    · exact h1.elim
  · exact h.elim
end
theorem setRow_front : ∀ (vs b : List Value), vs.length ≤ b.length → setRow b 0 vs = vs ++ b.drop vs.length
  | [], b, _ => by simp [setRow]
  | v :: vs, [], h => by simp at h
  | v :: vs, x :: b, h => by
    have h1 := setRow_pre vs [v] b 0
    have h2 := setRow_front vs b (by simpa using h)
    simp only [List.length_singleton, Nat.add_zero, List.singleton_append] at h1
    show setRow (v :: b) (0 + 1) vs = _
    rw [Nat.zero_add, h1, h2]
    rfl
theorem setRow_eq (vs cs : List Value) (off : Nat) (h : off + vs.length ≤ cs.length) : setRow cs off vs = cs.take off ++ vs ++ cs.drop (off + vs.length) := by
  have h1 := setRow_pre vs (cs.take off) (cs.drop off) 0
  rw [List.take_append_drop, List.length_take, Nat.min_eq_left (by omega), Nat.add_zero] at h1
  rw [h1, setRow_front _ _ (by rw [List.length_drop]; omega), List.drop_drop, List.append_assoc]
section
variable {α : Type} {P : Program} {n : Nat} {T : Ty α} {p : Psi} {g : Gh} {own : Own} {sl : Sl} {ty : TypeId}
theorem Reps.many {xs ys : List α} {cs ds : List Value} {i : Nat} (h : Reps T p cs xs) (k : Reps T p ds ys) (hi : i + ys.length ≤ xs.length) : Reps T p (setRow cs (i * T.n) ds) (xs.take i ++ ys ++ xs.drop (i + ys.length)) := by
  have hl : i * T.n + ds.length = (i + ys.length) * T.n := by rw [k.len, Nat.add_mul]
  rw [setRow_eq _ _ _ (by rw [hl, h.len]; exact Nat.mul_le_mul_right _ hi), hl]
  exact ((h.take i).append k).append (h.drop (i + ys.length))
theorem Buf.many {et : TypeId} {A : Option Addr} {c : Nat} {kb : Bk} {xs ys : List α} {ds : List Value} {i : Nat} (h : Buf p T et (.slice A xs.length c) (some kb) xs) (k : Reps T p ds ys) (hi : i + ys.length ≤ xs.length) :
    A = some ⟨kb.g, 0, none⟩ ∧ i * T.n + ds.length ≤ kb.cs.length ∧ Buf p T et (.slice A (xs.take i ++ ys ++ xs.drop (i + ys.length)).length c) (some ⟨kb.g, kb.t, setRow kb.cs (i * T.n) ds⟩) (xs.take i ++ ys ++ xs.drop (i + ys.length)) := by
  obtain ⟨h0, h⟩ := h
  have hlen : (xs.take i ++ ys ++ xs.drop (i + ys.length)).length = xs.length := by
    simp only [List.length_append, List.length_take, List.length_drop]; omega
  rcases h with ⟨_, _, h3⟩ | ⟨b, cap, cs, sp, h1, h2, h3, h4, h5⟩
  · cases h3
  · injection h1 with e1 e2 e3
    subst e1; subst e3
    have hds : i * T.n + ds.length ≤ cs.length := by
      rw [k.len, h3.len, ← Nat.add_mul]; exact Nat.mul_le_mul_right _ hi
    rcases h2 with h2 | h2 <;> injection h2 with h2 <;> subst h2
    all_goals
    refine ⟨rfl, by rw [List.length_append]; omega, by rw [hlen]; exact h0, .inr ⟨b, c, setRow cs (i * T.n) ds, sp, rfl, ?_, h3.many k hi, by rw [List.length_append, setRow_length, ← List.length_append]; exact h4, h5⟩⟩
    rw [setRow_app _ _ _ _ hds]
    first | exact .inl rfl | exact .inr rfl
theorem e_many {op : Op} {et : TypeId} {A B : Option Addr} {c io i : Nat} {k : Option Bk} {xs ys : List α} {ds : List Value} {r : Value} (hi : own[io]? = some k) (hb : Buf p T et (.slice A xs.length c) k xs) (hd : Reps T p ds ys) (hl : i + ys.length ≤ xs.length)
    (hB : 0 < ys.length → B = offA A c i T.n)
    (hrun : ∀ (o : Oper) (a : Act) (w w' : World), o.op = op → o.type = ty → Fr n a sl → St w g own → (ys.length = 0 → w' = w) → (0 < ys.length → ∃ ad, B = some ad ∧ (storeCells ad ds).run P w = .ok () w') → (execOp a.eval o).run P w = .ok (.value r) w') :
    Eff P n g own sl op ty (fun v' g' own' => v' = r ∧ g = g' ∧ ∃ k', own' = own.set io k' ∧ Buf p T et (.slice A (xs.take i ++ ys ++ xs.drop (i + ys.length)).length c) k' (xs.take i ++ ys ++ xs.drop (i + ys.length))) := by
  intro o a w Q K h1 h2 hf hs h
  rcases Nat.eq_zero_or_pos ys.length with h0 | h0
  · have : ys = [] := List.length_eq_zero_iff.1 h0
    subst this
    have e := hrun o a w w h1 h2 hf hs (fun _ => rfl) (fun h => absurd h (by simp))
    unfold Oper.wp
    rw [e]
    refine h _ g (own.set io k) w (.refl g) (by rw [set_same hi]; exact hs) ⟨rfl, rfl, k, rfl, ?_⟩
    simpa using hb
  · cases k with
    | none =>
      rcases hb.2 with ⟨_, e, _⟩ | ⟨_, _, _, _, _, e, _⟩
      · subst e
        have hl : i + ys.length ≤ 0 := hl
        omega
      · rcases e with e | e <;> cases e
    | some kb =>
      obtain ⟨e1, e2, e3⟩ := hb.many hd hl
      have hBe : B = some ⟨kb.g, i * T.n, none⟩ := by
        rw [hB h0, e1]
        unfold offA
        rw [if_neg]
        · show some (Addr.add ⟨kb.g, 0, none⟩ (i * T.n)) = _
          simp [Addr.add]
          try exact fun e => e.symm
        · have := hb.val
          obtain ⟨_, _, e4, e5⟩ := this
          injection e4 with _ _ e6
          omega
      obtain ⟨w', hst, hs'⟩ := run_storeCells_own (P := P) (g := g) (i := io) (k := kb) (vs := ds) (own := own) (off := i * T.n) kb.cs 0 hs hi (by simpa using hd.one) (by omega)
      have e := hrun o a w w' h1 h2 hf hs (fun h => absurd h (by omega)) (fun _ => ⟨_, hBe, hst⟩)
      unfold Oper.wp
      rw [e]
      exact h _ g _ w' (.refl g) hs' ⟨rfl, rfl, _, rfl, e3⟩
end
section
variable {P : Program} {n : Nat} {ty : TypeId} {sl : List (Nat × SV)} {bl bl' : List BV} {v : SV} {f : Nat} {g : Gh} {ρ : Env} {own : Own} {fr : Sl}
theorem set_len {α : Type} {xs ys : List α} {i : Nat} (h : i + ys.length ≤ xs.length) : (xs.take i ++ ys ++ xs.drop (i + ys.length)).length = xs.length := by
  simp only [List.length_append, List.length_take, List.length_drop]; omega
theorem effH_many {op : Op} {b : Nat} {d : Cd} {et : TypeId} {xs ys : List d.den} {i : Nat} {r : SV} (hb : bl[b]? = some (.row d et xs)) (hl : i + ys.length ≤ xs.length)
    (h : ∀ g ρ own fr, Rl g ρ ⟨sl, bl⟩ own fr → ∀ k, own[b]? = some k → Buf g.b d.ty et (.slice (ρ b).1 xs.length (ρ b).2) k xs → ∃ rv, RealS g ρ (bl.set b (.row d et (xs.take i ++ ys ++ xs.drop (i + ys.length)))) r rv ∧ Eff P n g own fr op ty (fun v' g' own' => v' = rv ∧ g = g' ∧ ∃ k', own' = own.set b k' ∧ Buf g.b d.ty et (.slice (ρ b).1 (xs.take i ++ ys ++ xs.drop (i + ys.length)).length (ρ b).2) k' (xs.take i ++ ys ++ xs.drop (i + ys.length)))) :
    EffH P n op ty sl bl (bl.set b (.row d et (xs.take i ++ ys ++ xs.drop (i + ys.length)))) r := by
  intro o a w Q K g ρ own fr h1 h2 hr hfr hs hk
  obtain ⟨k0, hk0, hB⟩ := hr.own_at hb
  obtain ⟨rv, hrv, he⟩ := h g ρ own fr hr k0 hk0 hB
  refine he o a w Q K h1 h2 hfr hs fun v g' own' w' hg hs' ⟨e1, e2, k', e3, hB'⟩ => ?_
  subst e1; subst e2; subst e3
  obtain ⟨hx, hr'⟩ := setB_ok hb (bv1 := .row d et (xs.take i ++ ys ++ xs.drop (i + ys.length))) (k := k') hr (.refl g) rfl (fun m hm => by
    have hm : some (xs.take i ++ ys ++ xs.drop (i + ys.length)).length = some m := hm
    rw [set_len hl] at hm; exact hm) hB'
  exact hk v g ρ _ w' (.refl g) hx hs' hr' hrv
def ovrL {α : Type} (xs : List α) (i : Nat) (ys : List α) : List α := xs.take i ++ ys ++ xs.drop (i + ys.length)
def tClear (P : Program) (sl : List (Nat × SV)) (t : TypeId) (x : Operand) : Tr := match rowOf P t, evH sl x with
  | some (c, et, _), some (.v (.c (.vw b cv l r))) => (match zeroOf P et with
    | some zs => (match constL zs.toList with
      | some cl => encC c cl fun u _ => .need b fun
        | .row d et' xs => (match d.same c, d.same cv, Nat.beq et' et with
          | some h, some _, true => .grd (decide (l ≤ r ∧ r ≤ xs.length)) (.done ⟨.any, [(b, .row d et' (ovrL xs l (List.replicate (r - l) (h.down ▸ u))))], []⟩)
          | _, _, _ => .no)
        | _ => .no
      | none => .no)
    | none => .no)
  | _, _ => .no
theorem zero_len {c : Cd} {et t : TypeId} {bytes : Nat} {zs : Array Value} (happ : appT P t et = some (c.ty.n, bytes)) (hzs : zeroOf P et = some zs) : zs.toList.length = c.n := by
  have h1 := happ
  unfold appT at h1
  unfold zeroOf at hzs
  split at h1
  · rename_i e' i hu' hi
    split at h1
    · rename_i z0 hz0
      split at h1
      · rename_i hcnd
        simp only [Option.some.injEq, Prod.mk.injEq] at h1
        rw [hi] at hzs
        simp only [Option.bind_some, hz0, Option.map_some, Option.some.injEq] at hzs
        rw [← hzs, Array.length_toList, hcnd.2, h1.1, c.ty_n]
      · cases h1
    · cases h1
  · cases h1
theorem run_clear_ {t et : TypeId} {B : Option Addr} {m cap k bytes : Nat} {zs : List Value} {w w' : World} (ha : appT P t et = some (k, bytes)) (hz : zeroOf P et = some zs.toArray) (h0 : m = 0 → w' = w)
    (h1 : 0 < m → ∃ ad, B = some ad ∧ (storeCells ad (madeCells zs.toArray (m * k)).toList).run P w = .ok () w') : (Builtin.clear_ #[t] ty #[.slice B m cap]).run P w = .ok (.tuple #[]) w' := by
  obtain ⟨inf, z0, ht, hinf, hz0, hsz, hby, hzs⟩ := (AppT.of ha).out
  have hzc : (z0.cells : Array Value) = zs.toArray := by
    unfold zeroOf at hz
    rw [hinf] at hz
    simpa [hz0] using hz
  have hzv : ∀ w, (zeroValue et).run P w = .ok z0 w := fun w => by simp [zeroValue, typeInfo, program, Sem.run, bind, Sem.bind, hinf, hz0, pure]
  have e : Builtin.zeroCells z0.cells m = madeCells zs.toArray (m * k) := by
    rw [← hzs, hzc]
    rfl
  rcases Nat.eq_zero_or_pos m with hm | hm
  · subst hm
    rw [h0 rfl]
    cases B <;> simp [Builtin.clear_, run_underlying ht]
  · obtain ⟨ad, rfl, hst⟩ := h1 hm
    rw [← e] at hst
    obtain ⟨m, rfl⟩ : ∃ q, m = q + 1 := ⟨m - 1, by omega⟩
    simp [Builtin.clear_, run_underlying ht, hzv, hst]
theorem tClear_ok {t : TypeId} {x : Operand} (h : Told f (tClear P sl t x) bl bl' v) : EffH P n (.call { callee := .builtin .clear, args := #[x], argTypes := #[t] }) ty sl bl bl' v := by
  unfold tClear at h
  split at h
  · rename_i c et by_ b cv l r hrow ex
    obtain ⟨hu, happ, _, hby⟩ := rowOf_ok hrow
    split at h
    · rename_i zs hzs
      split at h
      · rename_i cl hcl
        obtain ⟨u, r0, bl1, h2, hfz, henc⟩ := encC_told c h
        clear h
        obtain ⟨bv, hb, h⟩ := h2
        dsimp only at h
        split at h
        · rename_i d et' xs
          split at h
          · rename_i hk1 hk2 _ _ het
            obtain ⟨hk1⟩ := hk1; obtain ⟨hk2⟩ := hk2; subst hk1; subst hk2
            have het := Nat.eq_of_beq_eq_true het
            subst het
            obtain ⟨hg, rfl, rfl⟩ := h
            obtain ⟨hlr, hrx⟩ := of_decide_eq_true hg
            have hyl : l + (List.replicate (r - l) u).length ≤ xs.length := by rw [List.length_replicate]; omega
            refine EffH.frz hfz (effH_many (r := .any) (i := l) (ys := List.replicate (r - l) u) hb hyl fun g ρ own fr hr k hk hB => ⟨.tuple #[], (trivial : True), ?_⟩)
            obtain ⟨vx, hx1, hkn, rfl, hl⟩ := evH_real hr ex
            have hall := constL_real (g := g) (ρ := ρ) (bl := bl1) hcl
            obtain ⟨c1, c2, e1, e2, e3⟩ := henc.real hr d hall
            have hl1 := zero_len happ hzs
            have hl2 : c1.length = d.n := by rw [d.ty.len e2, d.ty_n]
            have hc20 : c2 = [] := by
              have : zs.toList.length = c1.length + c2.length := by rw [e1, List.length_append]
              exact List.eq_nil_of_length_eq_zero (by omega)
            rw [hc20, List.append_nil] at e1
            have hzs' : zeroOf P et' = some c1.toArray := by rw [hzs, ← e1]
            refine e_many (T := d.ty) (B := offA (ρ b).1 (ρ b).2 l d.n) (i := l) (ds := (madeCells c1.toArray ((r - l) * d.ty.n)).toList) hk hB (made_reps e2 (r - l)) hyl (fun _ => by rw [d.ty_n]) fun o a w w' q1 q2 hf hs q3 q4 => ?_
            rw [List.length_replicate] at q3 q4
            have := run_clear_ (P := P) (ty := o.type) (cap := (ρ b).2 - l) happ hzs' q3 q4
            simp [execOp, q1, resolve, invoke, builtin, hf.ev hx1, this]
          · exact h.elim
        · exact h.elim
      · exact h.elim
    · exact h.elim
  · exact h.elim
def dstT (sl : List (Nat × SV)) (x : Operand) (K : (b : Nat) → (d : Cd) → TypeId → List d.den → (l r : Nat) → Tr) : Tr := match evH sl x with
  | some (.v (.c (.own b))) => .need b fun | .row d et xs => K b d et xs 0 xs.length | _ => .no
  | some (.v (.c (.vw b cv l r))) => .need b fun | .row d et xs => (match d.same cv with | some _ => K b d et xs l r | none => .no) | _ => .no
  | _ => .no
theorem dstT_told {x : Operand} {K : (b : Nat) → (d : Cd) → TypeId → List d.den → (l r : Nat) → Tr} (h : Told f (dstT sl x K) bl bl' v) : ∃ b d et xs l r, bl[b]? = some (.row d et xs) ∧ Told f (K b d et xs l r) bl bl' v ∧
    ∀ g ρ own fr, Rl g ρ ⟨sl, bl⟩ own fr → l ≤ r ∧ r ≤ xs.length ∧ ∃ cap, evS fr x = some (.slice (offA (ρ b).1 (ρ b).2 l d.n) (r - l) cap) := by
  unfold dstT at h
  split at h
  · rename_i b ex
    obtain ⟨bv, hb, h⟩ := h
    dsimp only at h
    split at h
    · rename_i d et xs
      refine ⟨b, d, et, xs, 0, xs.length, hb, h, fun g ρ own fr hr => ?_⟩
      obtain ⟨vx, hx1, hkn, l, rfl, hl⟩ := evH_real hr ex
      have hl := hl _ _ hb rfl
      subst hl
      exact ⟨Nat.zero_le _, Nat.le_refl _, (ρ b).2, by rw [offA_zero, Nat.sub_zero]; exact hx1⟩
    · exact h.elim
  · rename_i b cv l r ex
    obtain ⟨bv, hb, h⟩ := h
    dsimp only at h
    split at h
    · rename_i d et xs
      split at h
      · rename_i hk _; obtain ⟨hk⟩ := hk; subst hk
        refine ⟨b, d, et, xs, l, r, hb, h, fun g ρ own fr hr => ?_⟩
        obtain ⟨vx, hx1, hkn, rfl, hl⟩ := evH_real hr ex
        obtain ⟨h1, h2⟩ := hl _ _ hb rfl
        exact ⟨h1, h2, _, hx1⟩
      · exact h.elim
    · exact h.elim
  · exact h.elim
def tCopy (P : Program) (sl : List (Nat × SV)) (t : TypeId) (x y : Operand) : Tr := match rowOf P t with
  | some (c, et, _) => dstT sl x fun b d et' xs l r => (match d.same c, Nat.beq et' et with
    | some _, true => srcT sl d b y fun ys => .done ⟨vC (.int .i64 ((ys.take (r - l)).length : Int)), [(b, .row d et' (ovrL xs l (ys.take (r - l))))], []⟩
    | _, _ => .no)
  | none => .no
theorem run_copy_ {t t' et : TypeId} {A B : Option Addr} {m m' cap cap' k : Nat} {cs : List Value} {w w' : World} (hu : P.underlying t = some (.slice et)) (hsz : cellsOfT P et = some k) (hs : 0 < Nat.min m' m * k → ∃ ad, A = some ad ∧ ∀ j u, cs[j]? = some u → w.cell? (ad.add j) = some u)
    (hl : cs.length = Nat.min m' m * k) (h0 : Nat.min m' m = 0 → w' = w) (h1 : 0 < Nat.min m' m → ∃ ad, B = some ad ∧ (storeCells ad cs).run P w = .ok () w') (hk : 0 < k) : (Builtin.copy_ #[t, t'] ty #[.slice B m cap, .slice A m' cap']).run P w = .ok (.int .i64 (Nat.min m' m : Int)) w' := by
  have hfc : (Builtin.firstCells k (Nat.min m' m) (.slice A m' cap')).run P w = .ok cs.toArray w := by
    rcases Nat.eq_zero_or_pos (Nat.min m' m * k) with h | h
    · rw [h] at hl
      have := List.length_eq_zero_iff.1 hl
      subst this
      cases A with
      | none => simp [Builtin.firstCells]
      | some ad =>
        have := run_loadCells_list (P := P) w ad [] (fun j v e => by simp at e)
        simp only [Builtin.firstCells, h]
        simpa using this
    · obtain ⟨ad, rfl, hc⟩ := hs h
      have := run_loadCells_list (P := P) w ad cs hc
      rw [hl] at this
      simp only [Builtin.firstCells]
      exact this
  have hsz' := run_sizeOf_of hsz w
  simp only [Builtin.copy_]
  simp [run_underlying hu, Builtin.lenOf, hsz', hfc]
  rcases Nat.eq_zero_or_pos (Nat.min m' m) with h | h
  · rw [h0 h]
    rw [h, Nat.zero_mul] at hl
    have := List.length_eq_zero_iff.1 hl
    subst this
    cases B <;> simp [storeCells, goInt]
  · obtain ⟨ad, rfl, hst⟩ := h1 h
    simp [hst, goInt]
theorem tCopy_ok {t t' : TypeId} {x y : Operand} (h : Told f (tCopy P sl t x y) bl bl' v) : EffH P n (.call { callee := .builtin .copy, args := #[x, y], argTypes := #[t, t'] }) ty sl bl bl' v := by
  unfold tCopy at h
  split at h
  · rename_i c et by_ hrow
    obtain ⟨hu, happ, hsz, hby⟩ := rowOf_ok hrow
    obtain ⟨b, d, et', xs, l, r, hb, h2, hdst⟩ := dstT_told h
    clear h
    split at h2
    · rename_i hk1 _ het
      obtain ⟨hk1⟩ := hk1; subst hk1
      have het := Nat.eq_of_beq_eq_true het
      subst het
      obtain ⟨ys, h3, hsrc⟩ := srcT_told h2
      clear h2
      obtain ⟨rfl, rfl⟩ := h3
      intro o a w Q K g ρ own fr
      by_cases hyl : l + (ys.take (r - l)).length ≤ xs.length
      · revert o a w Q K g ρ own fr
        refine effH_many (i := l) (ys := ys.take (r - l)) hb hyl fun g ρ own fr hr k hk hB => ?_
        obtain ⟨hlr, hrx, cap, hx1⟩ := hdst g ρ own fr hr
        obtain ⟨hyl2, A, cap', news, hy1, hy2, hy3⟩ := hsrc g ρ own fr hr
        have hmin : Nat.min ys.length (r - l) = (ys.take (r - l)).length := by rw [List.length_take]; exact Nat.min_comm _ _
        have hnl : (news.take ((ys.take (r - l)).length * d.ty.n)).length = Nat.min ys.length (r - l) * d.ty.n := by
          rw [hmin, List.length_take, hy2.len]
          exact Nat.min_eq_left (Nat.mul_le_mul_right _ (by rw [List.length_take]; exact Nat.min_le_right _ _))
        have hrep : Reps d.ty g.b (news.take ((ys.take (r - l)).length * d.ty.n)) (ys.take (r - l)) := by
          have := hy2.take (ys.take (r - l)).length
          rw [show ys.take (ys.take (r - l)).length = ys.take (r - l) by rw [List.length_take, List.take_eq_take_iff]; omega] at this
          exact this
        refine ⟨.int .i64 ((ys.take (r - l)).length : Int), ⟨rfl, inK_len (by rw [List.length_take]; omega)⟩, ?_⟩
        refine e_many (T := d.ty) (B := offA (ρ b).1 (ρ b).2 l d.n) (i := l) hk hB hrep hyl (fun _ => by rw [d.ty_n]) fun o a w w' q1 q2 hf hs q3 q4 => ?_
        have hs3 := hy3 w hs
        have := run_copy_ (P := P) (ty := o.type) (t' := t') (cap := cap) (cap' := cap') (A := A) (w := w) (cs := news.take ((ys.take (r - l)).length * d.ty.n)) hu hsz (fun hp => by
          have h0 : 0 < ys.length := by
            rcases Nat.eq_zero_or_pos ys.length with h | h
            · rw [h] at hp; simp at hp
            · exact h
          obtain ⟨ad, e1, e2⟩ := hs3 h0
          exact ⟨ad, e1, fun j u hu => e2 j u (by rw [List.getElem?_take] at hu; split at hu; exact hu; cases hu)⟩) hnl (fun h => q3 (by rw [← hmin]; exact h)) (fun h => q4 (by rw [← hmin]; exact h)) d.ty.pos
        rw [hmin] at this
        simp [execOp, q1, resolve, invoke, builtin, hf.ev hx1, hf.ev hy1, this]
      · intro h1 h2 hr hf hs hk
        obtain ⟨hlr, hrx, _⟩ := hdst g ρ own fr hr
        exact absurd (by rw [List.length_take]; omega) hyl
    · exact h2.elim
  · exact h.elim
end
section
variable {α : Type} {P : Program} {n : Nat} {T : Ty α} {p : Psi} {g : Gh} {own : Own} {sl : Sl} {ty : TypeId}
theorem run_append_view {w : World} {t ty' et : TypeId} {bytes : Nat} (ha : AppT P t et T.n bytes) (hs : St w g own) {i : Nat} {A : Option Addr} {c : Nat} {k : Option Bk} {xs : List α} (hi : own[i]? = some k) (hb : Buf p T et (.slice A xs.length c) k xs)
    {l r : Nat} (hl : 0 < l) (hlr : l ≤ r) (hr : r ≤ xs.length) {A2 : Option Addr} {m c2 : Nat} {news : List Value} {ys : List α} (hm : m = ys.length) (hsrc : Src w A2 m news) (hrep : Reps T p news ys) (hbytes : (r + ys.length) * bytes ≤ 140737488355328) (hlen : r + ys.length ≤ 140737488355328) :
    ∃ A' c' w' k', (Builtin.append_ #[t, t] ty' #[.slice (offA A c l T.n) (r - l) (c - l), .slice A2 m c2]).run P w = .ok (.slice A' (r - l + ys.length) c') w' ∧ St w' g (own.set i k') ∧
      ((A' = offA A c l T.n ∧ c' = c - l ∧ Buf p T et (.slice A (xs.take r ++ ys).length c) k' (xs.take r ++ ys)) ∨ Buf p T et (.slice A' ((xs.drop l).take (r - l) ++ ys).length c') k' ((xs.drop l).take (r - l) ++ ys)) := by
  obtain ⟨inf, z, ht, hinf, hz, hsz, hby, hzs⟩ := ha.out
  have hcell : cellsOfT P et = some T.n := by simp [cellsOfT, hinf, hsz]
  have hcap : xs.length ≤ c := by
    obtain ⟨_, _, e4, e5⟩ := hb.val
    injection e4 with _ _ e6
    omega
  have hlr2 : (xs.take r).length = r := by rw [List.length_take]; omega
  subst hm
  by_cases hy : ys = []
  · subst hy
    refine ⟨offA A c l T.n, c - l, w, k, ?_, by rw [set_same hi]; exact hs, .inl ⟨rfl, rfl, by rw [List.append_nil]; exact hb.cut r hr⟩⟩
    have hle : r - l ≤ c - l := by omega
    cases A2 with
    | none => exact run_append_none ht hcell hle
    | some ad => cases (offA A c l T.n) <;> simp [Builtin.append_, run_underlying ht, run_sizeOf_of hcell, Builtin.lenOf, hle, Builtin.firstCells, loadCells, loadCellsFrom, storeCells]
  · have hpos : 0 < ys.length := List.length_pos_iff.2 hy
    obtain ⟨ad, rfl, hnews⟩ := hsrc hpos
    obtain ⟨h0, hb'⟩ := hb
    rcases hb' with ⟨h1, h2, h3⟩ | ⟨b, cap, cs, sp, h1, h2, h3, h4, h5⟩
    · subst h2
      have hr : r ≤ 0 := hr
      omega
    · injection h1 with e1 e2 e3
      subst e1; subst e3
      rcases h2 with rfl | rfl
      all_goals
      have hnl : news.length = ys.length * T.n := hrep.len
      have hcs := h3.len
      have hrn : r * T.n ≤ cs.length := by rw [hcs]; exact Nat.mul_le_mul_right _ hr
      have hold : ∀ j u, ((cs.drop (l * T.n)).take ((r - l) * T.n))[j]? = some u → w.cell? ⟨b, l * T.n + j, none⟩ = some u := fun j u hu => by
        have := hs.has _ (List.mem_of_getElem? hi)
        rw [List.getElem?_take] at hu
        split at hu
        · rw [List.getElem?_drop] at hu
          simp [World.cell?, this, Bk.obj]
          rw [List.getElem?_append_left (by rcases Nat.lt_or_ge (l * T.n + j) cs.length with h | h; exact h; rw [List.getElem?_eq_none h] at hu; cases hu)]
          exact hu
        · cases hu
      by_cases hroom : r - l + ys.length ≤ c - l
      · have hne : ¬ c = l := by omega
        have hoff : offA (some (⟨b, 0, none⟩ : Addr)) c l T.n = some ⟨b, l * T.n, none⟩ := by
          unfold offA
          rw [if_neg hne]
          simp [addr_add]
        have hfit : r * T.n + news.length ≤ (cs ++ sp).length := by
          rw [h4, hnl, ← Nat.add_mul]
          exact Nat.mul_le_mul_right _ (by omega)
        obtain ⟨w', hst, hs'⟩ := run_storeCells_own (P := P) (g := g) (i := i) (k := ⟨b, _, cs ++ sp⟩) (vs := news) (own := own) (off := r * T.n) (cs ++ sp) 0 hs hi (by simpa using hrep.one) (by omega)
        have hadd : l * T.n + (r - l) * T.n = r * T.n := by rw [← Nat.add_mul]; congr 1; omega
        have hf := run_firstCells_some (P := P) w T.n ys.length ad ys.length c2 news (by rw [hnl]) hnews
        refine ⟨offA (some ⟨b, 0, none⟩) c l T.n, c - l, w', _, ?_, hs', .inl ⟨rfl, rfl, ?_⟩⟩
        · rw [hoff]
          have hst' : (storeCells ⟨b, l * T.n + (r - l) * T.n, none⟩ news).run P w = .ok () w' := by rw [hadd]; exact hst
          simp [Builtin.append_, run_underlying ht, run_sizeOf_of hcell, Builtin.lenOf, hroom, hf, addr_add, hst']
        · refine ⟨by rw [List.length_append, hlr2]; exact hlen, .inr ⟨b, c, cs.take (r * T.n) ++ news, (cs ++ sp).drop (r * T.n + news.length), by rw [List.length_append], ?_, (h3.take r).append hrep, ?_, h5⟩⟩
          · rw [Nat.add_zero, setRow_eq _ _ _ hfit, List.take_append_of_le_length hrn]
            first | exact .inl rfl | exact .inr rfl
          · rw [List.length_append, List.length_append, List.length_take, List.length_drop, Nat.min_eq_left hrn]
            omega
      · have hoff : ∃ a, offA (some (⟨b, 0, none⟩ : Addr)) c l T.n = some a ∧ (0 < r - l → a = ⟨b, l * T.n, none⟩) := by
          unfold offA
          by_cases h : c = l
          · exact ⟨⟨b, 0, none⟩, by rw [if_pos h], fun h' => by omega⟩
          · refine ⟨⟨b, l * T.n, none⟩, by rw [if_neg h]; simp [addr_add], fun _ => rfl⟩
        obtain ⟨a0, ea, hab⟩ := hoff
        have holen : ((cs.drop (l * T.n)).take ((r - l) * T.n)).length = (r - l) * T.n := by
          rw [List.length_take, List.length_drop]
          have : l * T.n + (r - l) * T.n = r * T.n := by rw [← Nat.add_mul]; congr 1; omega
          omega
        have hbig : (r - l + ys.length) * inf.bytes ≤ 140737488355328 := by
          rw [hby]
          exact Nat.le_trans (Nat.mul_le_mul_right _ (by omega)) hbytes
        obtain ⟨v', w', hrun, how', hgrow⟩ := run_append_arg_grows (P := P) w t ty' et inf z T.n inf.bytes ht hinf hz hsz rfl hzs T.pos a0 (r - l) (c - l) ((cs.drop (l * T.n)).take ((r - l) * T.n)) holen (fun j u hu => by
            have h0 : 0 < r - l := by
              rcases Nat.eq_zero_or_pos (r - l) with h | h
              · rw [h] at hu; simp at hu
              · exact h
            rw [hab h0, addr_add]
            exact hold j u hu) ad ys.length c2 news hnl hnews (by omega) (by simp only [maxLen]; omega) hbig
        have hlenpos : 0 < r - l + ys.length := by omega
        rcases how'.2 with ⟨rfl, hz0⟩ | ⟨b', cap', cur, rfl, hge, hheap, hnc, hcm, hcsz, htake⟩
        · omega
        · refine ⟨some ⟨b', 0, none⟩, cap', w', some ⟨b', et, cur.toList⟩, by rw [ea]; exact hrun, ?_, .inr ?_⟩
          · refine hs.swap hi _ hgrow.os hgrow.tape hgrow.output (fun b hb hne => hgrow.block b hb fun e => by cases e) fun k' hk' => ?_
            injection hk' with hk'
            subst hk'
            exact ⟨by simpa [Bk.obj_ty] using hheap, .inr hge⟩
          · have hpl : ((xs.drop l).take (r - l)).length = r - l := part_len hr
            have hc2 : cur.toList = (((cs.drop (l * T.n)).take ((r - l) * T.n)) ++ news) ++ cur.toList.drop ((r - l + ys.length) * T.n) := by rw [← htake, List.take_append_drop]
            refine ⟨by rw [List.length_append, hpl]; omega, .inr ⟨b', cap', ((cs.drop (l * T.n)).take ((r - l) * T.n)) ++ news, cur.toList.drop ((r - l + ys.length) * T.n), by rw [List.length_append, hpl], .inl (by rw [← hc2]), (((h3.drop l).take (r - l)).append hrep), ?_, hcm⟩⟩
            rw [← hc2]
            simpa using hcsz
end
section
variable {P : Program} {n : Nat} {ty : TypeId} {sl : List (Nat × SV)} {bl bl' : List BV} {v : SV} {f : Nat} {g : Gh} {ρ : Env} {own : Own} {fr : Sl}
def tAppV (P : Program) (sl : List (Nat × SV)) (t t' : TypeId) (s x : Operand) : Tr := match rowOf P t, Nat.beq t t', evH sl s with
  | some (c, et, bytes), true, some (.v (.c (.vw b cv l r))) => .need b fun
      | .row d et' xs => (match d.same c, d.same cv, Nat.beq et' et && Nat.ble 1 l with
        | some _, some _, true => srcT sl d b x fun ys => .grd (decide ((r + ys.length) * bytes ≤ 140737488355328)) (.done ⟨vC (.ro d ((xs.drop l).take (r - l) ++ ys) true), [(b, .no)], []⟩)
        | _, _, _ => .no)
      | _ => .no
  | _, _, _ => .no
theorem tAppV_ok {t t' : TypeId} {s x : Operand} (h : Told f (tAppV P sl t t' s x) bl bl' v) :
    EffH P n (.call { callee := .builtin .append, args := #[s, x], argTypes := #[t, t'] }) ty sl bl bl' v := by
  unfold tAppV at h
  split at h
  · rename_i c et bytes b cv l r hrow htt es
    have htt := Nat.eq_of_beq_eq_true htt
    subst htt
    obtain ⟨hu, happ, _, hby⟩ := rowOf_ok hrow
    obtain ⟨bv, hb, h⟩ := h
    dsimp only at h
    split at h
    · rename_i d et' xs
      split at h
      · rename_i hk0 hk2 _ _ he
        obtain ⟨hk0⟩ := hk0; obtain ⟨hk2⟩ := hk2; subst hk0; subst hk2
        simp only [Bool.and_eq_true] at he
        obtain ⟨he, hl1⟩ := he
        have he := Nat.eq_of_beq_eq_true he
        have hl1 := Nat.le_of_ble_eq_true hl1
        subst he
        obtain ⟨ys, h2, hsrc⟩ := srcT_told h
        clear h
        obtain ⟨hg, rfl, rfl⟩ := h2
        have hg := of_decide_eq_true hg
        intro o a w Q K g ρ own fr h1 h2 hr hfr hs hk
        obtain ⟨vs', hs1, hkn, rfl, hl⟩ := evH_real hr es
        obtain ⟨hlr, hrx⟩ := hl _ _ hb rfl
        obtain ⟨k0, hk0, hB⟩ := hr.own_at hb
        have hB : Buf g.b d.ty et' (.slice (ρ b).1 xs.length (ρ b).2) k0 xs := hB
        obtain ⟨hyl, A2, cap2, news, hx1, hx2, hx3⟩ := hsrc g ρ own fr hr
        have hlb := get_lt hk0
        have hpl : ((xs.drop l).take (r - l)).length = r - l := part_len hrx
        obtain ⟨A', c', w', k', hrun, hs', hres⟩ := run_append_view (P := P) (ty' := o.type) (c2 := cap2) (AppT.of happ) hs hk0 hB (l := l) (r := r) (by omega) hlr hrx rfl (hx3 w hs) hx2 hg (le_mul_bytes hby hg)
        have key : ∃ g', g.le g' ∧ St w' g' ((own.set b k').set b none) ∧ Arr g'.b d.ty A' c' ((xs.drop l).take (r - l) ++ ys) := by
          have hi' : (own.set b k')[b]? = some k' := by simp [List.getElem?_set, hlb]
          rcases hres with ⟨rfl, rfl, hB'⟩ | hB'
          · have key : ∃ g' , g.le g' ∧ St w' g' ((own.set b k').set b none) ∧ Arr g'.b d.ty (ρ b).1 (ρ b).2 (xs.take r ++ ys) :=
              wpq_freeze (K := fun _ w' => ∃ g' , g.le g' ∧ St w' g' ((own.set b k').set b none) ∧ Arr g'.b d.ty (ρ b).1 (ρ b).2 (xs.take r ++ ys)) (n := 0) (sl := []) b hi' hB' (fun g' h1 h2 a w' _ h3 => ⟨g', h1, h3, h2⟩) ⟨#[], []⟩ w' ⟨rfl, rfl, fun _ _ h => by cases h⟩ hs'
            obtain ⟨g', h1, h2, h3⟩ := key
            refine ⟨g', h1, h2, ?_⟩
            have h4 := h3.cut_from l (by rw [List.length_append, List.length_take]; omega)
            rw [List.drop_append_of_le_length (by rw [List.length_take]; omega), List.drop_take] at h4
            exact h4
          · exact wpq_freeze (K := fun _ w' => ∃ g' , g.le g' ∧ St w' g' ((own.set b k').set b none) ∧ Arr g'.b d.ty A' c' ((xs.drop l).take (r - l) ++ ys)) (n := 0) (sl := []) b hi' hB' (fun g' h1 h2 a w' _ h3 => ⟨g', h1, h3, h2⟩) ⟨#[], []⟩ w' ⟨rfl, rfl, fun _ _ h => by cases h⟩ hs'
        obtain ⟨g', hg1, hs2, harr⟩ := key
        rw [List.set_set] at hs2
        have hx : Ext ρ bl ρ (bl.set b .no) := Ext.set_at hb rfl fun m hm => by cases hm
        have hr1 := hr.setB (g' := g') (bv1 := .no) (k := none) hg1 hb rfl (fun m hm => by cases hm) rfl
        have hrun' : (execOp a.eval o).run P w = .ok (.value (.slice A' (r - l + ys.length) c')) w' := by
          have hs1' : evS fr s = some (.slice (offA (ρ b).1 (ρ b).2 l d.ty.n) (r - l) ((ρ b).2 - l)) := by rw [d.ty_n]; exact hs1
          simp [execOp, h1, resolve, invoke, builtin, hfr.ev hs1', hfr.ev hx1, hrun]
        unfold Oper.wp
        rw [hrun']
        refine hk _ g' ρ _ w' hg1 hx hs2 hr1 ⟨A', c', by rw [List.length_append, hpl], harr⟩
      · exact h.elim
    · exact h.elim
  · exact h.elim
end
def tStoreC (P : Program) (sl : List (Nat × SV)) (f : Nat) (t : TypeId) (x y : Operand) : Tr := match evH sl y with
  | some (.v (.c (.vw rb c l h))) => (match evH sl x, Nat.beq l 0 with
    | some (.v (.c (.ptr b off))), true => .need rb fun
      | .row d et xs => .need b fun
        | .cells t0 cs => (match fitsT P t 1 off cs.length with | true => .done ⟨.any, [(rb, .no), (b, .cells t0 (setRowC cs off [.own f]))], [.row d et (xs.take h)]⟩ | false => .no)
        | _ => .no
      | _ => .no
    | _, _ => tStore P sl t x y)
  | _ => tStore P sl t x y
section
variable {P : Program} {n : Nat} {ty : TypeId} {sl : List (Nat × SV)} {bl bl' : List BV} {v : SV} {f : Nat} {g : Gh} {ρ : Env} {own : Own} {fr : Sl}
theorem Rl.cutF {w : World} {b r : Nat} {c d : Cd} {et : TypeId} {xs : List d.den} {v : Value} (hr : Rl g ρ ⟨sl, bl⟩ own fr) (hs : St w g own) (hf : bl[f]? = some .hole) (hb : bl[b]? = some (.row d et xs)) (hv : RealC g ρ bl (.vw b c 0 r) v) :
    ∃ ρ' own', St w g own' ∧ Rl g ρ' ⟨sl, (bl.set b .no).set f (.row d et (xs.take r))⟩ own' fr ∧ RealC g ρ' ((bl.set b .no).set f (.row d et (xs.take r))) (.own f) v ∧ Ext ρ bl ρ' ((bl.set b .no).set f (.row d et (xs.take r))) := by
  obtain ⟨hkn, rfl, hl⟩ := hv
  have hl := (hl _ _ hb rfl).2
  have hlr : (xs.take r).length = r := by rw [List.length_take]; omega
  obtain ⟨k0, hk0, hB⟩ := hr.own_at hb
  have hB : Buf g.b d.ty et (.slice (ρ b).1 xs.length (ρ b).2) k0 xs := hB
  have hB := hB.cut r hl
  have hbf : b ≠ f := fun e => by subst e; rw [hf] at hb; cases hb
  have hno := hr.hole_none hf
  have hst := hs.move (b := b) (f := f) (k := k0) hk0 hno hbf
  have hx : Ext ρ bl ρ (bl.set b .no) := Ext.set_at hb rfl fun m hm => by cases hm
  have hr1 := hr.setB (g' := g) (bv1 := .no) (k := none) (.refl g) hb rfl (fun m hm => by cases hm) rfl
  have hf1 : (bl.set b .no)[f]? = some .hole := by rw [get_ne hbf]; exact hf
  have hx1 : Ext ρ (bl.set b .no) (setρ ρ f (ρ b)) ((bl.set b .no).set f (.row d et (xs.take r))) := Ext.set_hole hf1
  have hr2 := hr1.lay (g' := g) (bv := .row d et (xs.take r)) (k := k0) (e := ρ b) (.refl g) hf1 hB
  have hlt : f < (bl.set b .no).length := by rw [List.length_set]; exact get_lt hf
  refine ⟨setρ ρ f (ρ b), _, hst, hr2, ?_, hx.trans hx1⟩
  rw [offA_zero, Nat.sub_zero, Nat.sub_zero]
  refine ⟨⟨.row d et (xs.take r), by simp [List.getElem?_set, get_lt hf], rfl⟩, r, by rw [setρ_at], fun bv m e1 e2 => ?_⟩
  have e3 : ((bl.set b .no).set f (.row d et (xs.take r)))[f]? = some (.row d et (xs.take r)) := by simp [List.getElem?_set, get_lt hf]
  rw [e3] at e1; injection e1 with e1; subst e1
  have e2 : some (xs.take r).length = some m := e2
  injection e2 with e2
  omega
theorem tStoreC_ok {t : TypeId} {x y : Operand} (hf : ∀ rb c l r, evH sl y = some (.v (.c (.vw rb c l r))) → bl[f]? = some .hole) (h : Told f (tStoreC P sl f t x y) bl bl' v) : EffH P n (.store t x y) ty sl bl bl' v := by
  unfold tStoreC at h
  split at h
  case h_2 => exact tStore_ok h
  rename_i rb c l r ey
  split at h
  case h_2 => exact tStore_ok h
  rename_i b off ex hl0
  have hl0 := Nat.eq_of_beq_eq_true hl0
  subst hl0
  have hf := hf _ _ _ _ ey
  obtain ⟨bv, hrb, h⟩ := h
  dsimp only at h
  split at h
  case h_2 => exact h.elim
  rename_i d et xs
  obtain ⟨bv, hb, h⟩ := h
  dsimp only at h
  split at h
  case h_2 => exact h.elim
  rename_i t0 lc
  split at h
  case h_2 => exact h.elim
  rename_i hfit
  obtain ⟨rfl, rfl⟩ := h
  obtain ⟨hz, hle⟩ := fitsT_ok hfit
  have hbr : rb ≠ b := fun e => by subst e; rw [hrb] at hb; cases hb
  have hfb : f ≠ b := fun e => by subst e; rw [hf] at hb; cases hb
  intro o a w Q K g ρ own fr h1 h2 hr hfr hs hk
  obtain ⟨vx, hx1, hx2⟩ := evH_real hr ex
  obtain ⟨vy, hy1, hy2⟩ := evH_real hr ey
  have hy2 : RealC g ρ bl (.vw rb c 0 r) vy := hy2
  obtain ⟨ρ1, own1, hs1, hr1, hv1, he1⟩ := hr.cutF hs hf hrb hy2
  have hx2 := RealC.ext (.refl g) he1 hx2
  obtain ⟨_, ad, ha, rfl⟩ := hx2
  have hb1 : ((bl.set rb .no).set f (.row d et (xs.take r)))[b]? = some (.cells t0 lc) := by rw [get_ne hfb, get_ne hbr]; exact hb
  obtain ⟨k, hko, b0, cs, rfl, h4, h5⟩ := hr1.own_at hb1
  rw [ha] at h4; injection h4 with h4; subst h4
  rw [addr_add, Nat.zero_add] at hx1
  have hone := realC_one hv1
  refine e_store (P := P) (vs := [vy]) hx1 hy1 hko rfl hone.2 hz (by rw [List.all_cons, hone.1]; rfl) (Nat.ble_eq_true_of_le (by rw [← h5.len]; exact hle)) rfl o a w Q K h1 h2 hfr hs1 fun v g' own' w' hg hs' ⟨e1, e2⟩ => ?_
  subst e1; subst e2
  have e : applyE bl f ⟨.any, [(rb, .no), (b, .cells t0 (setRowC lc off [.own f]))], [.row d et (xs.take r)]⟩ = ((bl.set rb .no).set f (.row d et (xs.take r))).set b (.cells t0 (setRowC lc off [.own f])) := by
    show ((bl.set rb .no).set b _).set f _ = _
    exact List.set_comm _ _ (Ne.symm hfb)
  rw [e] at hk
  have hx : Ext ρ1 ((bl.set rb .no).set f (.row d et (xs.take r))) ρ1 (((bl.set rb .no).set f (.row d et (xs.take r))).set b (.cells t0 (setRowC lc off [.own f]))) := Ext.set_at hb1 rfl fun m hm => by cases hm
  have hrl := hr1.setB (g' := g) (bv1 := .cells t0 (setRowC lc off [.own f])) (k := some ⟨b0, t0, setRow cs off [vy]⟩) (.refl g) hb1 rfl (fun m hm => by cases hm) ⟨b0, _, rfl, ha, (setRowC_real off (vs := [CV.own f]) (us := [vy]) (show All2 (RealC g ρ1 _) [CV.own f] [vy] from ⟨hv1, trivial⟩) h5).mono fun _ _ => RealC.ext (.refl g) hx⟩
  exact hk v g ρ1 _ w' (.refl g) (he1.trans hx) hs' hrl trivial
end
open Go.RowKit Go.WideShapes Go.ChangeShapes Go.Deep
def mpPut {α : Type} : List (List UInt8 × α) → List UInt8 → α → List (List UInt8 × α)
  | [], k, v => [(k, v)]
  | x :: l, k, v => cond (strEq k x.1) ((k, v) :: l) (x :: mpPut l k v)
def mpGet {α : Type} (d : α) : List (List UInt8 × α) → List UInt8 → α
  | [], _ => d
  | x :: l, k => cond (strEq k x.1) x.2 (mpGet d l k)
def mpHas {α : Type} : List (List UInt8 × α) → List UInt8 → Bool
  | [], _ => false
  | x :: l, k => cond (strEq k x.1) true (mpHas l k)
section
variable {c : Cd} {p : Psi}
theorem entsS_app {k u : Value} : ∀ {cs : List Value} {xs : List (List UInt8 × c.den)} (j : Nat), MRS c p cs xs → mapEnts (cs ++ [k, u]) j = mapEnts cs j ++ [⟨k, u, j + cs.length / 2⟩]
  | [], [], j, _ => rfl
  | [], _ :: _, _, h => h.elim
  | [_], _, _, h => h.elim
  | k' :: v :: cs, [], _, h => h.elim
  | k' :: v :: cs, x :: xs, j, h => by
    have ih := entsS_app (k := k) (u := u) (j + 1) h.2.2
    show ⟨k', v, j⟩ :: mapEnts (cs ++ [k, u]) (j + 1) = ⟨k', v, j⟩ :: (mapEnts cs (j + 1) ++ _)
    rw [ih]
    have : j + 1 + cs.length / 2 = j + (k' :: v :: cs).length / 2 := by simp only [List.length_cons]; omega
    rw [this]
theorem sameNow_str (a b : List UInt8) : Instr.sameNow .string (.string (mkS a)) (.string (mkS b)) = some (strEq a b) := by
  show some (mkS a == mkS b) = _
  congr 1
  rw [strEq_eq]
  have h1 : (mkS a == mkS b) = true ↔ (a == b) = true := by
    rw [MapKept.bytes_beq, beq_iff_eq]
    exact ⟨fun h => by rw [← mkS_toList a, ← mkS_toList b, h], fun h => by rw [h]⟩
  cases e1 : (mkS a == mkS b) <;> cases e2 : (a == b) <;> simp_all
theorem findS (kk : List UInt8) (hk : kk.length ≤ 1125899906842624) : ∀ (cs : List Value) (xs : List (List UInt8 × c.den)) (j i : Nat), MRS c p cs xs →
    (∃ m v b, Instr.findNow .string (.string (mkS kk)) (mapEnts cs j) i = some (some (i + m, v)) ∧ (mapEnts cs j)[m]? = some ⟨.string (mkS kk), v, b⟩ ∧ mpHas xs kk = true ∧ (∀ d, c.ty.rep p [v] (mpGet d xs kk)) ∧
      ∀ u y, c.ty.rep p [u] y → ∃ cs', (mapEnts cs j).modify m (fun e => { e with key := .string (mkS kk), val := u }) = mapEnts cs' j ∧ cs'.length = cs.length ∧ MRS c p cs' (mpPut xs kk y)) ∨
    (Instr.findNow .string (.string (mkS kk)) (mapEnts cs j) i = some none ∧ mpHas xs kk = false ∧ (∀ d, mpGet d xs kk = d) ∧ ∀ u y, c.ty.rep p [u] y → MRS c p (cs ++ [.string (mkS kk), u]) (mpPut xs kk y))
  | [], [], j, i, _ => .inr ⟨rfl, rfl, fun _ => rfl, fun u y h => ⟨⟨rfl, hk⟩, h, trivial⟩⟩
  | [], _ :: _, _, _, h => h.elim
  | [_], _, _, _, h => h.elim
  | _ :: _ :: _, [], _, _, h => h.elim
  | k :: v :: cs, x :: xs, j, i, h => by
    obtain ⟨⟨rfl, hx⟩, h2, h3⟩ := h
    cases he : strEq kk x.1 with
    | true =>
      have e0 : kk = x.1 := by rw [strEq_eq] at he; simpa using he
      subst e0
      refine .inl ⟨0, v, j, ?_, rfl, ?_, fun d => ?_, fun u y hu => ⟨.string (mkS x.1) :: u :: cs, rfl, rfl, ?_⟩⟩
      · show (match Instr.sameNow .string (.string (mkS x.1)) (.string (mkS x.1)) with | some true => some (some (i, v)) | some false => _ | none => _) = _
        rw [sameNow_str, he]; rfl
      · show cond (strEq x.1 x.1) _ _ = _
        rw [he]; rfl
      · show c.ty.rep p [v] (cond (strEq x.1 x.1) x.2 _)
        rw [he]; exact h2
      · show MRS c p _ (cond (strEq x.1 x.1) _ _)
        rw [he]; exact ⟨⟨rfl, hx⟩, hu, h3⟩
    | false =>
      have hf : Instr.findNow .string (.string (mkS kk)) (mapEnts (.string (mkS x.1) :: v :: cs) j) i = Instr.findNow .string (.string (mkS kk)) (mapEnts cs (j + 1)) (i + 1) := by
        show (match Instr.sameNow .string (.string (mkS kk)) (.string (mkS x.1)) with | some true => _ | some false => _ | none => _) = _
        rw [sameNow_str, he]
      have hg : ∀ d, mpGet d (x :: xs) kk = mpGet d xs kk := fun d => by
        show cond (strEq kk x.1) _ _ = _
        rw [he]; rfl
      have hh : mpHas (x :: xs) kk = mpHas xs kk := by
        show cond (strEq kk x.1) _ _ = _
        rw [he]; rfl
      have hp : ∀ y, mpPut (x :: xs) kk y = x :: mpPut xs kk y := fun y => by
        show cond (strEq kk x.1) _ _ = _
        rw [he]; rfl
      rw [hf, hh]
      rcases findS kk hk cs xs (j + 1) (i + 1) h3 with ⟨m, w, b, q1, q2, q0, q3, q4⟩ | ⟨q1, q0, q2, q3⟩
      · refine .inl ⟨m + 1, w, b, by rw [q1]; congr 3; omega, q2, q0, fun d => by rw [hg]; exact q3 d, fun u y hu => ?_⟩
        obtain ⟨cs', c1, c2, c3⟩ := q4 u y hu
        refine ⟨.string (mkS x.1) :: v :: cs', ?_, by simp only [List.length_cons]; omega, by rw [hp]; exact ⟨⟨rfl, hx⟩, h2, c3⟩⟩
        show ⟨.string (mkS x.1), v, j⟩ :: (mapEnts cs (j + 1)).modify m _ = ⟨.string (mkS x.1), v, j⟩ :: mapEnts cs' (j + 1)
        rw [c1]
      · exact .inr ⟨q1, q0, fun d => by rw [hg]; exact q2 d, fun u y hu => by rw [hp]; exact ⟨⟨rfl, hx⟩, h2, q3 u y hu⟩⟩
end
def mapOf (P : Program) (t : TypeId) : Option Cd := match P.underlying t with
  | some (.map kt et) => (match P.underlying kt, P.underlying et, (P.info? et).bind (·.zero) with
    | some .string, some .bool, some (.bool false) => some .b
    | some .string, some (.int k), some (.int j z) => (match sameK j k, eqZ z 0 with | some _, true => some (.i k) | _, _ => none)
    | _, _, _ => none)
  | _ => none
def datC : (c : Cd) → CV → Option c.den
  | .b, .bool x => some x
  | .i k, .int j x => match sameK j k with | some _ => some x | none => none
  | _, _ => none
def celC : (c : Cd) → c.den → Option CV
  | .b, x => some (.bool x)
  | .i k, x => some (.int k x)
  | _, _ => none
def tMakeMap (P : Program) (f : Nat) (t : TypeId) (r : Option Operand) : Tr := match r, mapOf P t with
  | none, some c => .done ⟨vC (.mp f), [], [.map c []]⟩
  | _, _ => .no
def tMapUpd (P : Program) (sl : List (Nat × SV)) (t : TypeId) (m k v : Operand) : Tr := match mapOf P t, evH sl m, evH sl k, evH sl v with
  | some c, some (.v (.c (.mp b))), some (.v (.c (.str kk))), some (.v (.c u)) => .need b fun
    | .map d xs => (match c.same d, datC d u with
      | some _, some y => .done ⟨.any, [(b, .map d (mpPut xs kk y))], []⟩
      | _, _ => .no)
    | _ => .no
  | _, _, _, _ => .no
def tLkp (P : Program) (sl : List (Nat × SV)) (t : TypeId) (m k : Operand) (ok : Bool) : Tr := match mapOf P t, evH sl m, evH sl k with
  | some c, some (.v (.c (.mp b))), some (.v (.c (.str kk))) => .need b fun
    | .map d xs => (match c.same d, celC d (mpGet d.dflt xs kk), ok with
      | some _, some y, false => retT (vC y)
      | some _, some y, true => retT (.tup [.c y, .c (.bool (mpHas xs kk))])
      | _, _, _ => .no)
    | _ => .no
  | _, _, _ => .no
section
variable {P : Program} {n : Nat} {ty : TypeId} {sl : List (Nat × SV)} {bl bl' : List BV} {v : SV} {f : Nat} {g : Gh} {ρ : Env} {own : Own} {fr : Sl}
theorem datC_rep {c : Cd} {u : CV} {y : c.den} {v : Value} {p : Psi} (h : datC c u = some y) (hr : RealC g ρ bl u v) : c.ty.rep p [v] y := by
  unfold datC at h
  split at h
  · injection h with h; subst h
    have hr : v = _ := hr
    subst hr
    rfl
  · split at h
    · rename_i hk _; obtain ⟨hk⟩ := hk; subst hk
      injection h with h; subst h
      obtain ⟨rfl, h2⟩ := hr
      exact ⟨rfl, h2⟩
    · cases h
  · cases h
theorem celC_real {c : Cd} {y : c.den} {u : CV} {v : Value} (h : celC c y = some u) (hr : c.ty.rep g.b [v] y) : RealC g ρ bl u v := by
  unfold celC at h
  split at h
  · injection h with h; subst h
    have hr : [v] = [Value.bool _] := hr
    injection hr
  · injection h with h; subst h
    obtain ⟨hr, h2⟩ := hr
    injection hr with hr
    exact ⟨hr, h2⟩
  · cases h
theorem mapOf_ok {t : TypeId} {c : Cd} (h : mapOf P t = some c) : ∃ kt et z, P.underlying t = some (.map kt et) ∧ P.underlying kt = some .string ∧ (∀ w, (zeroValue et).run P w = .ok z w) ∧ ∀ p : Psi, c.ty.rep p [z] c.dflt := by
  unfold mapOf at h
  split at h
  · rename_i kt et hu
    have hz : ∀ z, (P.info? et).bind (·.zero) = some z → ∀ w, (zeroValue et).run P w = .ok z w := fun z e6 w => by
      cases e : P.info? et with
      | none => rw [e] at e6; cases e6
      | some i =>
        rw [e] at e6
        have e6 : i.zero = some z := e6
        simp [zeroValue, typeInfo, program, Sem.run, bind, Sem.bind, e, e6, pure]
    split at h
    · rename_i e1 e2 e3
      injection h with h; subst h
      exact ⟨kt, et, _, hu, e1, hz _ e3, fun p => rfl⟩
    · rename_i k j z e1 e2 e3
      split at h
      · rename_i hk _ hz0; obtain ⟨hk⟩ := hk; subst hk
        injection h with h; subst h
        have := eqZ_eq hz0
        subst this
        exact ⟨kt, et, _, hu, e1, hz _ e3, fun p => ⟨rfl, inK_zero _⟩⟩
      · cases h
    · cases h
  · cases h
theorem tMakeMap_ok {t : TypeId} {r : Option Operand} (hf : bl[f]? = some .hole) (h : Told f (tMakeMap P f t r) bl bl' v) : EffH P n (.makeMap t r) ty sl bl bl' v := by
  unfold tMakeMap at h
  split at h
  case h_2 => exact h.elim
  rename_i c hc
  obtain ⟨rfl, rfl⟩ := h
  intro o a w Q K g ρ own fr h1 h2 hr hfr hs hk
  have hst := hs.allocK ⟨w.heap.size, mapB [], []⟩ rfl
  have : (execOp a.eval o).run P w = .ok (.value (.map (some w.heap.size))) (w.alloc (.map #[] 0)) := by
    simp [execOp, h1, Instr.makeMap, newObj, Sem.run]
  unfold Oper.wp
  rw [this]
  have hx : Ext ρ bl (setρ ρ f (some ⟨w.heap.size, 0, none⟩, 0)) (bl.set f (.map c [])) := Ext.set_hole hf
  exact hk _ g (setρ ρ f (some ⟨w.heap.size, 0, none⟩, 0)) _ _ (.refl g) hx (hst.fill (hr.hole_none hf)) (hr.lay (.refl g) hf ⟨w.heap.size, [], rfl, rfl, trivial⟩) ⟨known_set (get_lt hf) rfl, w.heap.size, by rw [setρ_at], rfl⟩
theorem tMapUpd_ok {t : TypeId} {m k u : Operand} (h : Told f (tMapUpd P sl t m k u) bl bl' v) : EffH P n (.mapUpdate t m k u) ty sl bl bl' v := by
  unfold tMapUpd at h
  split at h
  case h_2 => exact h.elim
  rename_i c b kk uc hc em ek eu
  obtain ⟨kt, et, z, e4, e5, _, _⟩ := mapOf_ok hc
  obtain ⟨bv, hb, h⟩ := h
  dsimp only at h
  split at h
  case h_2 => exact h.elim
  rename_i d xs
  split at h
  case h_2 => exact h.elim
  rename_i y _ hy
  obtain ⟨rfl, rfl⟩ := h
  intro o a w Q K g ρ own fr h1 h2 hr hf hs hk
  obtain ⟨vm, e1, hkn, b0, ha, rfl⟩ := evH_real hr em
  obtain ⟨vk, e2, rfl, hkl⟩ := evH_real hr ek
  obtain ⟨vu, e3, hu⟩ := evH_real hr eu
  have hu : RealC g ρ bl uc vu := hu
  have hrep : ∀ p : Psi, d.ty.rep p [vu] y := fun p => datC_rep hy hu
  obtain ⟨k0, hi, b1, cs, rfl, ha1, hmr⟩ := hr.own_at hb
  rw [ha] at ha1; injection ha1 with ha1; injection ha1 with ha1; subst ha1
  have hblk : w.heap[b0]? = some (.map (mapEnts cs 0).toArray (cs.length / 2)) := hs.has _ (Own.get_mem hi)
  have hkey : MapKept.IsKey .string (.string (mkS kk)) := trivial
  have fin : ∀ cs', MRS d g.b cs' (mpPut xs kk y) → ∀ w', St w' g (own.set b (some ⟨b0, mapB cs', []⟩)) → K (a.put o.dst undef) w' := fun cs' hm w' hst => by
    have hx : Ext ρ bl ρ (bl.set b (.map d (mpPut xs kk y))) := Ext.set_at hb rfl fun m hm => by cases hm
    have hrl := hr.setB (g' := g) (bv1 := .map d (mpPut xs kk y)) (k := some ⟨b0, mapB cs', []⟩) (.refl g) hb rfl (fun m hm => by cases hm) ⟨b0, cs', rfl, ha, hm⟩
    exact hk undef g ρ _ w' (.refl g) hx hst hrl trivial
  rcases findS (p := g.b) kk hkl cs xs 0 0 hmr with ⟨m, v, b', q1, q2, _, _, q4⟩ | ⟨q1, _, _, q3⟩
  · obtain ⟨cs', c1, c2, c3⟩ := q4 vu y (hrep g.b)
    have hst := hs.put (w' := { w with heap := w.heap.setIfInBounds b0 (.map (mapEnts cs' 0).toArray (cs.length / 2)) }) (k' := ⟨b0, mapB cs', []⟩) hi rfl rfl rfl rfl (fun r' hne => (MapKept.heap_set hblk).2 r' hne) (by
      rw [(MapKept.heap_set hblk).1]
      show some (Obj.map (mapEnts cs' 0).toArray (cs.length / 2)) = some (Obj.map (mapEnts cs' 0).toArray (cs'.length / 2))
      rw [c2])
    have hmod : (mapEnts cs 0).toArray.modify m (fun e => { e with key := .string (mkS kk), val := vu }) = (mapEnts cs' 0).toArray := by
      apply Array.toList_inj.1
      rw [Array.toList_modify, c1]
    have hq : ((mapEnts cs 0).toArray[m]?.map (·.key)).getD (.string (mkS kk)) = .string (mkS kk) := by
      rw [List.getElem?_toArray, q2]; rfl
    have : (execOp a.eval o).run P w = .ok .skip { w with heap := w.heap.setIfInBounds b0 (.map (mapEnts cs' 0).toArray (cs.length / 2)) } := by
      rw [Nat.zero_add] at q1
      have hrun : (Instr.mapUpdate t (.map (some b0)) (.string (mkS kk)) vu).run P w = .ok () { w with heap := w.heap.setIfInBounds b0 (.map (mapEnts cs' 0).toArray (cs.length / 2)) } := by
        simp only [Instr.mapUpdate, Sem.run_bind, run_underlying e4, MapKept.run_getObj_map hblk, MapKept.run_checkKey e5 hkey, MapKept.run_findKey e5 q1, Result.andThen, hq, MapKept.run_keyThatStays hkey, MapKept.run_setObj_map _ hblk, hmod]
      simp [execOp, h1, hf.ev e1, hf.ev e2, hf.ev e3, hrun]
    unfold Oper.wp
    rw [this]
    exact fin cs' c3 _ hst
  · have hst := hs.put (w' := { w with heap := w.heap.setIfInBounds b0 (.map (mapEnts (cs ++ [.string (mkS kk), vu]) 0).toArray (cs.length / 2 + 1)) }) (k' := ⟨b0, mapB (cs ++ [.string (mkS kk), vu]), []⟩) hi rfl rfl rfl rfl (fun r' hne => (MapKept.heap_set hblk).2 r' hne) (by
      rw [(MapKept.heap_set hblk).1]
      have : (cs ++ [Value.string (mkS kk), vu]).length / 2 = cs.length / 2 + 1 := by rw [List.length_append]; simp only [List.length_cons, List.length_nil]; omega
      show _ = some (Obj.map (mapEnts (cs ++ [.string (mkS kk), vu]) 0).toArray ((cs ++ [Value.string (mkS kk), vu]).length / 2))
      rw [this])
    have hpush : (mapEnts cs 0).toArray.push ⟨.string (mkS kk), vu, cs.length / 2⟩ = (mapEnts (cs ++ [.string (mkS kk), vu]) 0).toArray := by
      rw [entsS_app 0 hmr]
      simp
    have : (execOp a.eval o).run P w = .ok .skip { w with heap := w.heap.setIfInBounds b0 (.map (mapEnts (cs ++ [.string (mkS kk), vu]) 0).toArray (cs.length / 2 + 1)) } := by
      have hrun : (Instr.mapUpdate t (.map (some b0)) (.string (mkS kk)) vu).run P w = .ok () { w with heap := w.heap.setIfInBounds b0 (.map (mapEnts (cs ++ [.string (mkS kk), vu]) 0).toArray (cs.length / 2 + 1)) } := by
        simp only [Instr.mapUpdate, Sem.run_bind, run_underlying e4, MapKept.run_getObj_map hblk, MapKept.run_checkKey e5 hkey, MapKept.run_findKey e5 q1, Result.andThen, MapKept.run_setObj_map _ hblk, hpush]
      simp [execOp, h1, hf.ev e1, hf.ev e2, hf.ev e3, hrun]
    unfold Oper.wp
    rw [this]
    exact fin _ (q3 vu y (hrep g.b)) _ hst
theorem tMapIns_ok {t : TypeId} {m k u : Operand} (h : Told f (tMapUpd P sl t m k u) bl bl' v) : EffH P n (.insert t m k u) ty sl bl bl' v := by
  unfold tMapUpd at h
  split at h
  case h_2 => exact h.elim
  rename_i c b kk uc hc em ek eu
  obtain ⟨kt, et, z, e4, e5, _, _⟩ := mapOf_ok hc
  obtain ⟨bv, hb, h⟩ := h
  dsimp only at h
  split at h
  case h_2 => exact h.elim
  rename_i d xs
  split at h
  case h_2 => exact h.elim
  rename_i y _ hy
  obtain ⟨rfl, rfl⟩ := h
  intro o a w Q K g ρ own fr h1 h2 hr hf hs hk
  obtain ⟨vm, e1, hkn, b0, ha, rfl⟩ := evH_real hr em
  obtain ⟨vk, e2, rfl, hkl⟩ := evH_real hr ek
  obtain ⟨vu, e3, hu⟩ := evH_real hr eu
  have hu : RealC g ρ bl uc vu := hu
  have hrep : ∀ p : Psi, d.ty.rep p [vu] y := fun p => datC_rep hy hu
  obtain ⟨k0, hi, b1, cs, rfl, ha1, hmr⟩ := hr.own_at hb
  rw [ha] at ha1; injection ha1 with ha1; injection ha1 with ha1; subst ha1
  have hblk : w.heap[b0]? = some (.map (mapEnts cs 0).toArray (cs.length / 2)) := hs.has _ (Own.get_mem hi)
  have hkey : MapKept.IsKey .string (.string (mkS kk)) := trivial
  have fin : ∀ cs', MRS d g.b cs' (mpPut xs kk y) → ∀ w', St w' g (own.set b (some ⟨b0, mapB cs', []⟩)) → K (a.put o.dst undef) w' := fun cs' hm w' hst => by
    have hx : Ext ρ bl ρ (bl.set b (.map d (mpPut xs kk y))) := Ext.set_at hb rfl fun m hm => by cases hm
    have hrl := hr.setB (g' := g) (bv1 := .map d (mpPut xs kk y)) (k := some ⟨b0, mapB cs', []⟩) (.refl g) hb rfl (fun m hm => by cases hm) ⟨b0, cs', rfl, ha, hm⟩
    exact hk undef g ρ _ w' (.refl g) hx hst hrl trivial
  rcases findS (p := g.b) kk hkl cs xs 0 0 hmr with ⟨m, v, b', q1, q2, _, _, q4⟩ | ⟨q1, _, _, q3⟩
  · obtain ⟨cs', c1, c2, c3⟩ := q4 vu y (hrep g.b)
    have hst := hs.put (w' := { w with heap := w.heap.setIfInBounds b0 (.map (mapEnts cs' 0).toArray (cs.length / 2)) }) (k' := ⟨b0, mapB cs', []⟩) hi rfl rfl rfl rfl (fun r' hne => (MapKept.heap_set hblk).2 r' hne) (by
      rw [(MapKept.heap_set hblk).1]
      show some (Obj.map (mapEnts cs' 0).toArray (cs.length / 2)) = some (Obj.map (mapEnts cs' 0).toArray (cs'.length / 2))
      rw [c2])
    have hmod : (mapEnts cs 0).toArray.modify m (fun e => { e with key := .string (mkS kk), val := vu }) = (mapEnts cs' 0).toArray := by
      apply Array.toList_inj.1
      rw [Array.toList_modify, c1]
    have hq : ((mapEnts cs 0).toArray[m]?.map (·.key)).getD (.string (mkS kk)) = .string (mkS kk) := by
      rw [List.getElem?_toArray, q2]; rfl
    have : (execOp a.eval o).run P w = .ok .skip { w with heap := w.heap.setIfInBounds b0 (.map (mapEnts cs' 0).toArray (cs.length / 2)) } := by
      rw [Nat.zero_add] at q1
      have hrun : (Instr.mapUpdate t (.map (some b0)) (.string (mkS kk)) vu).run P w = .ok () { w with heap := w.heap.setIfInBounds b0 (.map (mapEnts cs' 0).toArray (cs.length / 2)) } := by
        simp only [Instr.mapUpdate, Sem.run_bind, run_underlying e4, MapKept.run_getObj_map hblk, MapKept.run_checkKey e5 hkey, MapKept.run_findKey e5 q1, Result.andThen, hq, MapKept.run_keyThatStays hkey, MapKept.run_setObj_map _ hblk, hmod]
      simp [execOp, h1, hf.ev e1, hf.ev e2, hf.ev e3, hrun]
    unfold Oper.wp
    rw [this]
    exact fin cs' c3 _ hst
  · have hst := hs.put (w' := { w with heap := w.heap.setIfInBounds b0 (.map (mapEnts (cs ++ [.string (mkS kk), vu]) 0).toArray (cs.length / 2 + 1)) }) (k' := ⟨b0, mapB (cs ++ [.string (mkS kk), vu]), []⟩) hi rfl rfl rfl rfl (fun r' hne => (MapKept.heap_set hblk).2 r' hne) (by
      rw [(MapKept.heap_set hblk).1]
      have : (cs ++ [Value.string (mkS kk), vu]).length / 2 = cs.length / 2 + 1 := by rw [List.length_append]; simp only [List.length_cons, List.length_nil]; omega
      show _ = some (Obj.map (mapEnts (cs ++ [.string (mkS kk), vu]) 0).toArray ((cs ++ [Value.string (mkS kk), vu]).length / 2))
      rw [this])
    have hpush : (mapEnts cs 0).toArray.push ⟨.string (mkS kk), vu, cs.length / 2⟩ = (mapEnts (cs ++ [.string (mkS kk), vu]) 0).toArray := by
      rw [entsS_app 0 hmr]
      simp
    have : (execOp a.eval o).run P w = .ok .skip { w with heap := w.heap.setIfInBounds b0 (.map (mapEnts (cs ++ [.string (mkS kk), vu]) 0).toArray (cs.length / 2 + 1)) } := by
      have hrun : (Instr.mapUpdate t (.map (some b0)) (.string (mkS kk)) vu).run P w = .ok () { w with heap := w.heap.setIfInBounds b0 (.map (mapEnts (cs ++ [.string (mkS kk), vu]) 0).toArray (cs.length / 2 + 1)) } := by
        simp only [Instr.mapUpdate, Sem.run_bind, run_underlying e4, MapKept.run_getObj_map hblk, MapKept.run_checkKey e5 hkey, MapKept.run_findKey e5 q1, Result.andThen, MapKept.run_setObj_map _ hblk, hpush]
      simp [execOp, h1, hf.ev e1, hf.ev e2, hf.ev e3, hrun]
    unfold Oper.wp
    rw [this]
    exact fin _ (q3 vu y (hrep g.b)) _ hst
theorem tLkp_ok {t : TypeId} {m k : Operand} {ok : Bool} (h : Told f (tLkp P sl t m k ok) bl bl' v) : EffH P n (.lookup t m k ok) ty sl bl bl' v := by
  unfold tLkp at h
  split at h
  case h_2 => exact h.elim
  rename_i c b kk hc em ek
  obtain ⟨kt, et, z, e4, e5, hz, hd⟩ := mapOf_ok hc
  obtain ⟨bv, hb, h⟩ := h
  dsimp only at h
  split at h
  case h_2 => exact h.elim
  rename_i d xs
  have key : ∀ (hcd : PLift (c = d)) (y : CV), celC d (mpGet d.dflt xs kk) = some y → ∀ (w : World) (g : Gh) (ρ : Env) (own : Own) (fr : Sl) (a : Act) (o : Oper), o.op = .lookup t m k ok → Rl g ρ ⟨sl, bl⟩ own fr → Fr n a fr → St w g own → ∃ u, RealC g ρ bl y u ∧ (execOp a.eval o).run P w = .ok (.value (match ok with | false => u | true => .tuple #[u, .bool (mpHas xs kk)])) w := fun ⟨hcd⟩ y hy w g ρ own fr a o h1 hr hf hs => by
    subst hcd
    obtain ⟨vm, e1, hkn, b0, ha, rfl⟩ := evH_real hr em
    obtain ⟨vk, e2, rfl, hkl⟩ := evH_real hr ek
    obtain ⟨k0, hi, b1, cs, rfl, ha1, hmr⟩ := hr.own_at hb
    rw [ha] at ha1; injection ha1 with ha1; injection ha1 with ha1; subst ha1
    have hblk : w.heap[b0]? = some (.map (mapEnts cs 0).toArray (cs.length / 2)) := hs.has _ (Own.get_mem hi)
    have hkey : MapKept.IsKey .string (.string (mkS kk)) := trivial
    rcases findS (p := g.b) kk hkl cs xs 0 0 hmr with ⟨m', v', b', q1, q2, q0, q3, _⟩ | ⟨q1, q0, q2, _⟩
    · rw [Nat.zero_add] at q1
      refine ⟨v', celC_real hy (q3 _), ?_⟩
      cases ok <;> simp [execOp, h1, hf.ev e1, hf.ev e2, Instr.lookup, Sem.run_bind, run_underlying e4, MapKept.run_getObj_map hblk, MapKept.run_checkKey e5 hkey, MapKept.run_findKey e5 q1, Result.andThen, q0]
    · refine ⟨z, celC_real hy (by rw [q2]; exact hd g.b), ?_⟩
      cases ok <;> simp [execOp, h1, hf.ev e1, hf.ev e2, Instr.lookup, Sem.run_bind, run_underlying e4, MapKept.run_getObj_map hblk, MapKept.run_checkKey e5 hkey, MapKept.run_findKey e5 q1, Result.andThen, q0, hz]
  split at h
  · rename_i y hcd hy _
    obtain ⟨rfl, rfl⟩ := told_ret h
    intro o a w Q K g ρ own fr h1 h2 hr hf hs hk
    obtain ⟨u, hu, he⟩ := key (by assumption) y hy w g ρ own fr a o h1 hr hf hs
    unfold Oper.wp
    rw [he]
    exact hk u g ρ own w (.refl g) .refl hs hr hu
  · rename_i y hcd hy _
    obtain ⟨rfl, rfl⟩ := told_ret h
    intro o a w Q K g ρ own fr h1 h2 hr hf hs hk
    obtain ⟨u, hu, he⟩ := key (by assumption) y hy w g ρ own fr a o h1 hr hf hs
    unfold Oper.wp
    rw [he]
    exact hk _ g ρ own w (.refl g) .refl hs hr ⟨[u, .bool (mpHas xs kk)], rfl, hu, rfl, trivial⟩
  · exact h.elim
end
open Go.RowKit Go.Lib
theorem strCells_mkS (l : List UInt8) : strCells (mkS l) = l.map fun x => .int .u8 (x.toNat : Int) := by simp [strCells, mkS]
theorem size_mkS (l : List UInt8) : (mkS l).size = l.length := by simp [mkS, ByteArray.size]
theorem str_at {P : Program} {w w' : World} {t u ty e : TypeId} {i : TypeInfo} (ht : P.underlying t = some (.slice e)) (hu : P.underlying u = some .string) (hi : P.info? e = some i) (hz : i.zero = some (.int .u8 0)) (hsize : i.size = 1) (hby : i.bytes = 1)
    {v v' : Value} {n : Nat} {xs : List Value} (hown : w.ownsRow 0 e 1 v n xs) {s : ByteArray} (hb : n + s.size ≤ 140737488355328) (hrun : (Builtin.append_ #[t, u] ty #[v, .string s]).run P w = .ok v' w')
    (h0 : v' = .slice none 0 0 ↔ v = .slice none 0 0 ∧ s.size = 0) : v'.ownBlock = v.ownBlock ∨ v'.ownBlock = some w.heap.size := by
  have hxl : xs.length = n := by simpa using hown.1
  rcases hown.2 with ⟨rfl, rfl⟩ | ⟨g, cap, cur, rfl, hbg, hg, hnc, hcm, hcs, htake⟩
  · by_cases hm : s.size = 0
    · left; rw [h0.2 ⟨rfl, hm⟩]
    · right
      have hr := run_append_nil_string (P := P) w t u ty e i (.int .u8 0) ht hu hi hz s (by omega) (by omega) (by rw [hby]; omega)
      rw [hr] at hrun
      injection hrun with h1 h2
      rw [← h1]; rfl
  · by_cases hroom : n + s.size ≤ cap
    · have hcs' : cur.size = cap := by simpa using hcs
      have hr := run_append_room_string (P := P) w t u ty e i ht hu hi hsize g n cap cur hg s hroom (by omega)
      rw [hr] at hrun
      injection hrun with h1 h2
      left; rw [← h1]; rfl
    · have hr := run_append_grow_string (P := P) w t u ty e i (.int .u8 0) ht hu hi hz ⟨g, 0, none⟩ n cap xs (by rw [hsize]; simpa using hxl) (hown.cells (g := g) rfl) s (by omega) (by omega) (by rw [hby]; exact growslice_fits (by omega) (by omega))
      rw [hr] at hrun
      injection hrun with h1 h2
      right; rw [← h1]; rfl
def bytS (P : Program) (t u : TypeId) : Option TypeId := match P.underlying t, P.underlying u with
  | some (.slice e), some .string => (match P.info? e with
    | some i => (match i.zero with
      | some (.int .u8 (.ofNat 0)) => cond (Nat.beq i.size 1 && Nat.beq i.bytes 1) (some e) none
      | _ => none)
    | none => none)
  | _, _ => none
theorem bytS_ok {P : Program} {t u e : TypeId} (h : bytS P t u = some e) : ∃ i, P.underlying t = some (.slice e) ∧ P.underlying u = some .string ∧ P.info? e = some i ∧ i.zero = some (.int .u8 0) ∧ i.size = 1 ∧ i.bytes = 1 := by
  unfold bytS at h
  split at h
  · rename_i e' h1 h2
    split at h
    · rename_i i h3
      split at h
      · rename_i h4
        obtain ⟨hc, he⟩ := condS h
        injection he with he; subst he
        simp only [Bool.and_eq_true] at hc
        exact ⟨i, h1, h2, h3, h4, Nat.eq_of_beq_eq_true hc.1, Nat.eq_of_beq_eq_true hc.2⟩
      · cases h
    · cases h
  · cases h
section
variable {P : Program} {n : Nat} {ty : TypeId} {sl : List (Nat × SV)} {bl bl' : List BV} {v : SV} {f : Nat} {g : Gh} {ρ : Env} {own : Own} {fr : Sl} {p : Psi}
theorem run_appstr_of0 {w : World} {t u ty' et : TypeId} (ha : bytS P t u = some et) (hs : St w g own) {i : Nat} {v : Value} {k : Option Bk} {xs l : List UInt8} (hi : own[i]? = some k) (hb : Buf0 p tyU8 et v k xs)
    (hlen : xs.length + l.length ≤ 140737488355328) :
    ∃ v' k' w', (Builtin.append_ #[t, u] ty' #[v, .string (mkS l)]).run P w = .ok v' w' ∧ Buf p tyU8 et v' k' (xs ++ l) ∧ St w' g (own.set i k') := by
  obtain ⟨inf, ht, hu, hinf, hz, hsz, hby⟩ := bytS_ok ha
  have hrep : Reps tyU8 p (strCells (mkS l)) l := by rw [strCells_mkS]; exact reps_tyU8
  have hown : ∃ cs, Reps tyU8 p cs xs ∧ w.ownsRow 0 et 1 v xs.length cs ∧ (∀ b, v.ownBlock = some b → ∃ kb, k = some kb ∧ kb.g = b) := by
    rcases hb.2 with ⟨rfl, rfl, rfl⟩ | ⟨b, cap, cs, sp, rfl, rfl, h3, h4, h5⟩
    · exact ⟨[], rfl, World.ownsRow_nil w 0 et 1, fun b hb => by simp [Value.ownBlock] at hb⟩
    · have hcl : cs.length = xs.length := by have := h3.len; simpa [tyU8] using this
      have h4 : (cs ++ sp).length = cap := by have := h4; simpa [tyU8] using this
      refine ⟨cs, h3, ⟨by omega, .inr ⟨b, cap, _, rfl, Nat.zero_le _, hs.has _ (List.mem_of_getElem? hi), ?_, h5, by simpa using h4, ?_⟩⟩, fun b' hb => ⟨_, rfl, by simpa [Value.ownBlock] using hb⟩⟩
      · rw [List.length_append] at h4; omega
      · simp [← hcl]
  obtain ⟨cs, hrx, how, hblk⟩ := hown
  obtain ⟨v', w', hrun, how', hgrow, h0⟩ := run_append_own_string (P := P) w 0 t u ty' et inf ht hu hinf hz hsz hby v xs.length cs how (mkS l) (by rw [size_mkS]; simp only [maxLen]; omega) (by rw [size_mkS]; omega) (Nat.zero_le _)
  have hat := str_at ht hu hinf hz hsz hby how (by rw [size_mkS]; omega) hrun h0
  rw [size_mkS] at how' h0
  rcases how'.2 with ⟨rfl, hz0⟩ | ⟨b', cap, cur, rfl, _, hheap, hnc, hcm, hcs, htake⟩
  · obtain ⟨rfl, hl0⟩ := h0.1 rfl
    have hl : l = [] := List.eq_nil_of_length_eq_zero hl0
    subst hl
    have hx : xs = [] := List.eq_nil_of_length_eq_zero (by simpa using hz0)
    subst hx
    refine ⟨_, k, w', hrun, by simpa using hb.toBuf, hs.swap hi k hgrow.os hgrow.tape hgrow.output (fun b hb hne => hgrow.block b hb fun e => by cases e) fun k' hk' => ?_⟩
    rcases hb.2 with ⟨_, _, hk0⟩ | ⟨b, cap, cs, sp, e1, _⟩
    · rw [hk0] at hk'; cases hk'
    · cases e1
  · refine ⟨_, some ⟨b', et, cur.toList⟩, w', hrun, ?_, ?_⟩
    · have hn1 : tyU8.n = 1 := rfl
      have hc2 : cur.toList = (cs ++ strCells (mkS l)) ++ cur.toList.drop ((xs.length + l.length) * 1) := by rw [← htake, List.take_append_drop]
      refine ⟨by rw [List.length_append]; exact hlen, .inr ⟨b', cap, cs ++ strCells (mkS l), cur.toList.drop ((xs.length + l.length) * 1), by rw [List.length_append], (.inl (by rw [← hc2])), hrx.append hrep, ?_, hcm⟩⟩
      rw [← hc2, hn1]; simpa using hcs
    · refine hs.swap hi _ hgrow.os hgrow.tape hgrow.output (fun b hb hne => hgrow.block b hb fun e => ?_) fun k' hk' => ?_
      · obtain ⟨kb, e1, e2⟩ := hblk b e.symm
        exact hne kb e1 e2.symm
      · injection hk' with hk'
        subst hk'
        refine ⟨by simpa [Bk.obj_ty] using hheap, ?_⟩
        rcases hat with h1 | h1
        · left
          obtain ⟨kb, e1, e2⟩ := hblk b' (by rw [← h1]; rfl)
          exact ⟨kb, e1, e2⟩
        · right
          have : b' = w.heap.size := by simpa [Value.ownBlock] using h1
          exact Nat.le_of_eq this.symm
theorem run_appstr_ms {w : World} {t u ty' et : TypeId} (ha : bytS P t u = some et) (hs : St w g own) {i : Nat} {b cap : Nat} {cs sp : List Value} {xs l : List UInt8} (hi : own[i]? = some (some ⟨b, .ms et, cs ++ sp⟩)) (h3 : Reps tyU8 p cs xs) (h4 : (cs ++ sp).length = cap * tyU8.n) (h5 : cap ≤ maxLen)
    (hlen : xs.length + l.length ≤ 140737488355328) :
    ∃ v' k' w', (Builtin.append_ #[t, u] ty' #[.slice (some ⟨b, 0, none⟩) xs.length cap, .string (mkS l)]).run P w = .ok v' w' ∧ Buf p tyU8 et v' k' (xs ++ l) ∧ St w' g (own.set i k') := by
  obtain ⟨inf, ht, hu, hinf, hz, hsz, hby⟩ := bytS_ok ha
  have hcell : cellsOfT P et = some 1 := by simp [cellsOfT, hinf, hsz]
  have hrep : Reps tyU8 p (strCells (mkS l)) l := by rw [strCells_mkS]; exact reps_tyU8
  have hnl : (strCells (mkS l)).length = l.length := by rw [strCells_mkS, List.length_map]
  have hcx : cs.length = xs.length := by have := h3.len; simpa [tyU8] using this
  have h4' : (cs ++ sp).length = cap := by simpa [tyU8] using h4
  by_cases hroom : xs.length + l.length ≤ cap
  · have hfit : xs.length + (strCells (mkS l)).length ≤ (cs ++ sp).length := by rw [hnl, h4']; exact hroom
    obtain ⟨w', hst, hs'⟩ := run_storeCells_own (P := P) (g := g) (i := i) (k := ⟨b, .ms et, cs ++ sp⟩) (vs := strCells (mkS l)) (own := own) (off := xs.length) (cs ++ sp) 0 hs hi (fun v hv => List.all_eq_true.1 hrep.one v hv) (by simpa using hfit)
    have hf := run_firstCells_string (P := P) w 1 (mkS l)
    rw [size_mkS] at hf
    refine ⟨.slice (some ⟨b, 0, none⟩) (xs.length + l.length) cap, some ⟨b, .ms et, setRow (cs ++ sp) (xs.length + 0) (strCells (mkS l))⟩, w', ?_, ?_, hs'⟩
    · have hst : (storeCells ⟨b, xs.length, none⟩ (strCells (mkS l))).run P w = .ok () w' := hst
      simp [Builtin.append_, run_underlying ht, run_underlying hu, run_sizeOf_of hcell, Builtin.lenOf, size_mkS, hroom, hf, Addr.add_lit, hst]
    · rw [Nat.add_zero, setRow_take _ _ _ hfit, ← hcx, List.take_left, List.drop_append, hcx, ← List.length_append]
      refine ⟨by rw [List.length_append]; exact hlen, .inr ⟨b, cap, cs ++ strCells (mkS l), _, rfl, .inr rfl, h3.append hrep, ?_, h5⟩⟩
      have e := congrArg List.length (setRow_take (strCells (mkS l)) (cs ++ sp) xs.length hfit)
      rw [setRow_length, h4, ← hcx, List.take_left, List.drop_append] at e
      rw [e, hcx]
  · have holds : ∀ j u, cs[j]? = some u → w.cell? ((⟨b, 0, none⟩ : Addr).add j) = some u := fun j u hu => by
      have hk := hs.has _ (List.mem_of_getElem? hi)
      rw [addr_add]
      simp [World.cell?, hk, Bk.obj]
      rw [List.getElem?_append_left (by rcases Nat.lt_or_ge j cs.length with h | h; exact h; rw [List.getElem?_eq_none h] at hu; cases hu)]
      exact hu
    have hr := run_append_grow_string (P := P) w t u ty' et inf (.int .u8 0) ht hu hinf hz ⟨b, 0, none⟩ xs.length cap cs (by rw [hsz, hcx, Nat.mul_one]) holds (mkS l) (by rw [size_mkS]; omega) (by rw [size_mkS]; omega) (by rw [hby, size_mkS]; exact growslice_fits (by omega) (by omega))
    have hge := grownCap_ge w (xs.length + (mkS l).size) cap et
    have hle : grownCap w (xs.length + (mkS l).size) cap et ≤ maxLen := grownCap_le_maxLen w _ cap et (by rw [size_mkS]; simp only [maxLen]; omega)
    rw [size_mkS] at hr hge hle
    generalize grownCap w (xs.length + l.length) cap et = gc at hr hge hle
    refine ⟨_, some ⟨w.heap.size, et, cs ++ strCells (mkS l) ++ (Builtin.zeroCells (Value.int .u8 0).cells (gc - (xs.length + l.length))).toList⟩, _, hr, ?_, ?_⟩
    · refine ⟨by rw [List.length_append]; exact hlen, .inr ⟨w.heap.size, gc, cs ++ strCells (mkS l), _, by rw [List.length_append], .inl rfl, h3.append hrep, ?_, hle⟩⟩
      have hz1 : (Value.int IntKind.u8 0).cells.size = 1 := rfl
      have hn1 : tyU8.n = 1 := rfl
      have e1 : (Builtin.zeroCells (Value.int IntKind.u8 0).cells (gc - (xs.length + l.length))).toList.length = gc - (xs.length + l.length) := by rw [Array.length_toList (xs := Builtin.zeroCells _ _), size_zeroCells, hz1, Nat.mul_one]
      rw [List.length_append, List.length_append, hnl, hcx, e1, hn1]
      omega
    · refine hs.swap hi _ rfl rfl rfl (fun b' hb' hne => heap_alloc_old w.drew _ hb') fun k' hk' => ?_
      injection hk' with hk'
      subst hk'
      refine ⟨?_, .inr (Nat.le_refl _)⟩
      have e := heap_alloc_new w.drew (.cells (cs.toArray ++ (strCells (mkS l)).toArray ++ Builtin.zeroCells (Value.int .u8 0).cells (gc - (xs.length + l.length))) et)
      refine e.trans ?_
      simp [Bk.obj_ty]
theorem run_appstr_of {w : World} {t u ty' et : TypeId} (ha : bytS P t u = some et) (hs : St w g own) {i : Nat} {v : Value} {k : Option Bk} {xs l : List UInt8} (hi : own[i]? = some k) (hb : Buf p tyU8 et v k xs)
    (hlen : xs.length + l.length ≤ 140737488355328) :
    ∃ v' k' w', (Builtin.append_ #[t, u] ty' #[v, .string (mkS l)]).run P w = .ok v' w' ∧ Buf p tyU8 et v' k' (xs ++ l) ∧ St w' g (own.set i k') := by
  rcases hb with ⟨h0, h | ⟨b, cap, cs, sp, rfl, h2 | rfl, h3, h4, h5⟩⟩
  · exact run_appstr_of0 ha hs hi ⟨h0, .inl h⟩ hlen
  · exact run_appstr_of0 ha hs hi ⟨h0, .inr ⟨b, cap, cs, sp, rfl, h2, h3, h4, h5⟩⟩ hlen
  · exact run_appstr_ms ha hs hi h3 h4 h5 hlen
abbrev catY (xs ys : List UInt8) : List UInt8 := xs ++ ys
def tAppS (P : Program) (sl : List (Nat × SV)) (f : Nat) (t t' : TypeId) (s x : Operand) : Tr := match bytS P t t', evH sl x with
  | some et, some (.v (.c (.str ys))) => (match evH sl s with
    | some (.v (.c (.own b))) => .need b fun
      | .row .y et' xs => (match Nat.beq et' et with
        | true => .grd (decide (xs.length + ys.length ≤ 140737488355328)) (.done ⟨vC (.own f), [(b, .no)], [.row .y et' (catY xs ys)]⟩)
        | false => .no)
      | _ => .no
    | some (.v (.c (.k (.slice none 0 0)))) => .grd (decide (ys.length ≤ 140737488355328)) (.done ⟨vC (.own f), [], [.row .y et ys]⟩)
    | _ => .no)
  | _, _ => .no
theorem e_appstr {sl : Sl} {t u et : TypeId} {s x : Operand} (i : Nat) {v : Value} {k : Option Bk} {xs l : List UInt8} (p : Psi) (ha : bytS P t u = some et) (hs : evS sl s = some v) (hx : evS sl x = some (.string (mkS l))) (hi : own[i]? = some k) (hb : Buf p tyU8 et v k xs)
    (hlen : xs.length + l.length ≤ 140737488355328) :
    Eff P n g own sl (.call { callee := .builtin .append, args := #[s, x], argTypes := #[t, u] }) ty (fun v' g' own' => ∃ A' c' k', v' = .slice A' (xs ++ l).length c' ∧ g = g' ∧ own' = own.set i k' ∧ Buf p tyU8 et (.slice A' (xs ++ l).length c') k' (xs ++ l)) := by
  intro o a w Q K h1 h2 hf hst h
  obtain ⟨v', k', w', hrun, hb', hst'⟩ := run_appstr_of (P := P) (ty' := o.type) ha hst hi hb hlen
  obtain ⟨A', c', rfl, _⟩ := hb'.val
  have : (execOp a.eval o).run P w = .ok (.value (.slice A' (xs ++ l).length c')) w' := by
    simp [execOp, h1, resolve, invoke, builtin, hf.ev hs, hf.ev hx, hrun]
  unfold Oper.wp
  rw [this]
  exact h _ _ _ _ (.refl g) hst' ⟨A', c', k', rfl, rfl, rfl, hb'⟩
theorem tAppS_ok {t t' : TypeId} {s x : Operand} (hf : bl[f]? = some .hole) (h : Told f (tAppS P sl f t t' s x) bl bl' v) :
    EffH P n (.call { callee := .builtin .append, args := #[s, x], argTypes := #[t, t'] }) ty sl bl bl' v := by
  unfold tAppS at h
  split at h
  case h_2 => exact h.elim
  rename_i et ys hbs ex
  split at h
  · rename_i b es
    obtain ⟨bv, hb, h⟩ := h
    dsimp only at h
    split at h
    case h_2 => exact h.elim
    rename_i et' xs
    split at h
    case h_2 => exact h.elim
    rename_i he
    have he := Nat.eq_of_beq_eq_true he
    subst he
    obtain ⟨hg, rfl, rfl⟩ := h
    have hg := of_decide_eq_true hg
    have hbf : b ≠ f := fun e => by subst e; rw [hf] at hb; injection hb with hb; cases hb
    intro o a w Q K g ρ own fr h1 h2 hr hfr hs hk
    obtain ⟨vs', hs1, hkn, l, rfl, hl⟩ := evH_real hr es
    obtain ⟨vx, hx1, rfl, hxl⟩ := evH_real hr ex
    have hl := hl _ _ hb rfl
    subst hl
    obtain ⟨k0, hk0, hB⟩ := hr.own_at hb
    have hB : Buf g.b tyU8 et' (.slice (ρ b).1 xs.length (ρ b).2) k0 xs := hB
    refine e_appstr b g.b hbs hs1 hx1 hk0 hB hg o a w Q K h1 h2 hfr hs fun v g' own' w' hle hs' ⟨A', c', k', e1, e2, e3, hB'⟩ => ?_
    subst e1; subst e2; subst e3
    have hno := hr.hole_none hf
    have hlb := get_lt hk0
    have hst := hs'.move (b := b) (f := f) (k := k') (by simp [List.getElem?_set, hlb]) (by rw [get_ne hbf]; exact hno) hbf
    rw [List.set_set] at hst
    have hx : Ext ρ bl ρ (bl.set b .no) := Ext.set_at hb rfl fun m hm => by cases hm
    have hr1 := hr.setB (g' := g) (bv1 := .no) (k := none) (.refl g) hb rfl (fun m hm => by cases hm) rfl
    have hf1 : (bl.set b .no)[f]? = some .hole := by rw [get_ne hbf]; exact hf
    have hx1' : Ext ρ (bl.set b .no) (setρ ρ f (A', c')) ((bl.set b .no).set f (.row .y et' (catY xs ys))) := Ext.set_hole hf1
    have hr2 := hr1.lay (g' := g) (bv := .row .y et' (catY xs ys)) (k := k') (e := (A', c')) (.refl g) hf1 hB'
    refine hk _ g (setρ ρ f (A', c')) _ w' (.refl g) (hx.trans hx1') hst hr2 ⟨known_set (get_lt hf1) rfl, _, by rw [setρ_at], fun bv m e1 e2 => ?_⟩
    have : bv = .row .y et' (catY xs ys) := by
      have e3 : ((bl.set b .no).set f (.row .y et' (catY xs ys)))[f]? = some (.row .y et' (catY xs ys)) := by simp [List.getElem?_set, get_lt hf]
      have e1 : ((bl.set b .no).set f (.row .y et' (catY xs ys)))[f]? = some bv := e1
      rw [e3] at e1; injection e1 with e1; exact e1.symm
    subst this
    exact Option.some.inj e2
  · rename_i es
    obtain ⟨hg, rfl, rfl⟩ := h
    have hg := of_decide_eq_true hg
    intro o a w Q K g ρ own fr h1 h2 hr hfr hs hk
    obtain ⟨vs', hs1, rfl, _⟩ := evH_real hr es
    obtain ⟨vx, hx1, rfl, hxl⟩ := evH_real hr ex
    have hno := hr.hole_none hf
    refine e_appstr (xs := []) f g.b hbs hs1 hx1 hno Buf.nil (by simpa using hg) o a w Q K h1 h2 hfr hs fun v g' own' w' hle hs' ⟨A', c', k', e1, e2, e3, hB'⟩ => ?_
    subst e1; subst e2; subst e3
    rw [List.nil_append] at hB'
    have hx1' : Ext ρ bl (setρ ρ f (A', c')) (bl.set f (.row .y et ys)) := Ext.set_hole hf
    have hr2 := hr.lay (g' := g) (bv := .row .y et ys) (k := k') (e := (A', c')) (.refl g) hf hB'
    refine hk _ g (setρ ρ f (A', c')) _ w' (.refl g) hx1' hs' hr2 ⟨known_set (get_lt hf) rfl, _, by rw [setρ_at], fun bv m e1 e2 => ?_⟩
    have e3 : (bl.set f (.row .y et ys))[f]? = some (.row .y et ys) := by simp [List.getElem?_set, get_lt hf]
    have e1 : (bl.set f (.row .y et ys))[f]? = some bv := e1
    rw [e3] at e1; injection e1 with e1
    subst e1
    exact Option.some.inj e2
  · exact h.elim
end
def tBytes (P : Program) (sl : List (Nat × SV)) (f : Nat) (s d : TypeId) (x : Operand) : Tr := match P.underlying s, P.underlying d, evH sl x with
  | some .string, some (.slice e), some (.v (.c (.str l))) => (match P.underlying e with
    | some (.int .u8) => .grd (decide (l.length ≤ 140737488355328)) (.done ⟨vC (.own f), [], [.row .y e l]⟩)
    | _ => .no)
  | _, _, _ => tText P sl s d x
section
variable {P : Program} {n : Nat} {ty : TypeId} {sl : List (Nat × SV)} {bl bl' : List BV} {v : SV} {f : Nat} {g : Gh} {ρ : Env} {own : Own} {fr : Sl} {p : Psi}
theorem tBytes_ok {s d : TypeId} {x : Operand} (hf : ∀ l e, P.underlying d = some (.slice e) → evH sl x = some (.v (.c (.str l))) → bl[f]? = some .hole) (h : Told f (tBytes P sl f s d x) bl bl' v) : EffH P n (.convert s d x) ty sl bl bl' v := by
  unfold tBytes at h
  split at h
  case h_2 => exact tText_ok h
  rename_i e l hs hd ex
  have hf := hf _ _ hd ex
  split at h
  case h_2 => exact h.elim
  rename_i he
  obtain ⟨hg, h⟩ := h
  have hg : decide (l.length ≤ 140737488355328) = true := hg
  have hxl := of_decide_eq_true hg
  obtain ⟨rfl, rfl⟩ := h
  refine effH_row (c := .y) (et := e) (xs := l) hf fun g ρ own fr hr => ?_
  obtain ⟨vx, hx1, rfl, _⟩ := evH_real hr ex
  intro o a w Q K h1 h2 hfr hst h
  have hrun := run_bytes_of_string (P := P) w s d e (mkS l) hs hd he
  have hge := grownCap_ge w (mkS l).size 0 e
  have hle : grownCap w (mkS l).size 0 e ≤ maxLen := grownCap_le_maxLen w _ 0 e (by rw [size_mkS]; simp only [maxLen]; omega)
  rw [size_mkS] at hge hle hrun
  generalize grownCap w l.length 0 e = gc at hge hle hrun
  have hb : bytesRow (mkS l) gc = ((strCells (mkS l)) ++ List.replicate (gc - l.length) (Value.int .u8 0)).toArray := by
    apply Array.ext'
    simp [bytesRow, strCells, size_mkS]
  rw [hb] at hrun
  have hal := hst.drew.allocK ⟨w.heap.size, .ms e, strCells (mkS l) ++ List.replicate (gc - l.length) (Value.int .u8 0)⟩ rfl
  have : (execOp a.eval o).run P w = .ok (.value (.slice (some ⟨w.heap.size, 0, none⟩) l.length gc)) (w.drew.alloc (Bk.obj ⟨w.heap.size, .ms e, strCells (mkS l) ++ List.replicate (gc - l.length) (Value.int .u8 0)⟩)) := by
    simp [execOp, h1, hfr.ev hx1, hrun, Bk.obj]
  unfold Oper.wp
  rw [this]
  refine h _ _ _ _ (.refl g) hal ⟨_, _, _, rfl, rfl, rfl, hxl, .inr ⟨w.heap.size, gc, strCells (mkS l), _, rfl, .inr rfl, by rw [strCells_mkS]; exact reps_tyU8, ?_, hle⟩⟩
  have hn1 : (Cd.y.ty).n = 1 := rfl
  rw [List.length_append, strCells_mkS, List.length_map, List.length_replicate, hn1]
  omega
end
def tLitF (P : Program) (sl : List (Nat × SV)) (f : Nat) (t : TypeId) (len : Nat) (parts : List (Nat × Operand)) : Tr := match rowOf P t with
  | some _ => tLit P sl f t len parts
  | none => (match P.underlying t, partsH sl parts with
    | some (.slice et), some ps => (match cellsOfT P et, rowH P t len ps with
      | some 1, some l => cond (Nat.ble len 1000) (.done ⟨vC (.sc f len), [], [.cells et l]⟩) .no
      | _, _ => .no)
    | _, _ => .no)
def tIndexF (P : Program) (sl : List (Nat × SV)) (t : TypeId) (x i : Operand) : Tr := match evH sl x with
  | some (.v (.c (.sc b n))) => asI sl i fun k z => (match P.underlying t with
    | some (.slice e) => (match cellsOfT P e with
      | some 1 => splitZ z (fun j => retT (vC (.ptr b j))) n 0
      | _ => .no)
    | _ => .no)
  | _ => tIndexA P sl t x i
def tLenF (P : Program) (sl : List (Nat × SV)) (t : TypeId) (x : Operand) : Tr := match evH sl x with
  | some (.v (.c (.sc _ n))) => (match P.underlying t with | some (.slice _) => retT (vC (.int .i64 (n : Int))) | _ => .no)
  | _ => tLen P sl t x
section
variable {P : Program} {n : Nat} {ty : TypeId} {sl : List (Nat × SV)} {bl bl' : List BV} {v : SV} {f : Nat} {g : Gh} {ρ : Env} {own : Own} {fr : Sl} {p : Psi}
theorem tLitF_ok {t : TypeId} {len : Nat} {parts : List (Nat × Operand)} (hf : bl[f]? = some .hole) (h : Told f (tLitF P sl f t len parts) bl bl' v) : EffH P n (.buildSlice t len parts.toArray) ty sl bl bl' v := by
  unfold tLitF at h
  split at h
  · exact tLit_ok hf h
  split at h
  case h_2 => exact h.elim
  rename_i et ps hu hps
  split at h
  case h_2 => exact h.elim
  rename_i l hc hl
  obtain ⟨hle, h⟩ := condT h
  have hle := Nat.le_of_ble_eq_true hle
  obtain ⟨rfl, rfl⟩ := h
  intro o a w Q K g ρ own fr e1 e2 hr hfr hs hk
  obtain ⟨pv, h3, h4⟩ := partsH_real hr hps
  obtain ⟨cs, h5, h6⟩ := rowH_real hu hl h4
  refine e_buildSlice pv cs (by simpa using h3) h5 o a w Q K e1 e2 hfr hs fun v' g' own' w' hg hs' ⟨b, e3, e4, e5⟩ => ?_
  subst e3; subst e4; subst e5
  have hx : Ext ρ bl (setρ ρ f (some ⟨b, 0, none⟩, 0)) (bl.set f (.cells et l)) := Ext.set_hole hf
  exact hk _ g (setρ ρ f (some ⟨b, 0, none⟩, 0)) _ w' (.refl g) hx (hs'.fill (hr.hole_none hf)) (hr.lay (.refl g) hf ⟨b, cs, rfl, rfl, h6.mono fun _ _ => RealC.ext (.refl g) hx⟩) ⟨known_set (get_lt hf) rfl, hle, b, by rw [setρ_at], rfl⟩
theorem tIndexF_ok {t : TypeId} {x i : Operand} (h : Told f (tIndexF P sl t x i) bl bl' v) : EffH P n (.indexAddr t x i) ty sl bl bl' v := by
  unfold tIndexF at h
  split at h
  case h_2 => exact tIndexA_ok h
  rename_i b m ex
  obtain ⟨k, z, ei, h⟩ := asI_told h
  split at h
  case h_2 => exact h.elim
  rename_i e hu
  split at h
  case h_2 => exact h.elim
  rename_i hc
  obtain ⟨j, hj, rfl, h'⟩ := splitZ_told h
  obtain ⟨rfl, rfl⟩ := told_ret h'
  refine .of_yld fun g ρ own fr hr => ?_
  obtain ⟨vx, hx1, hkn, hm, kb, ha, rfl⟩ := evH_real hr ex
  obtain ⟨vi, hi1, rfl, _⟩ := evH_real hr ei
  refine ⟨_, ⟨hkn, ⟨kb, 0, none⟩, ha, rfl⟩, ?_⟩
  have := y_index (P := P) (n := n) (p := g.r) (own := own) (ty := ty) j hx1 hi1 (by omega) hu hc
  rwa [Nat.mul_one] at this
theorem tLenF_ok {t : TypeId} {x : Operand} (h : Told f (tLenF P sl t x) bl bl' v) : EffH P n (.call { callee := .builtin .len, args := #[x], argTypes := #[t] }) ty sl bl bl' v := by
  unfold tLenF at h
  split at h
  case h_2 => exact tLen_ok h
  rename_i b m ex
  split at h
  case h_2 => exact h.elim
  rename_i e hu
  obtain ⟨rfl, rfl⟩ := told_ret h
  refine .of_yld fun g ρ own fr hr => ?_
  obtain ⟨vx, hx1, hkn, hm, kb, ha, rfl⟩ := evH_real hr ex
  exact ⟨_, ⟨rfl, by simp [inK, IntKind.min, IntKind.max, IntKind.signed, IntKind.bits]; omega⟩, y_lenH hx1 fun w => by simp [Builtin.len_, run_underlying hu, goInt]⟩
end
def mxNew (S : FSp) : List Sch → Nat
  | [] => 0
  | s :: l => Nat.max (s.bl.length - S.ps.bl.length) (mxNew S l)
def mxL : List FSp → Nat
  | [] => 0
  | S :: l => Nat.max (mxNew S S.rs) (mxL l)
def stepM (P : Program) (tbl : FuncId → List FSp) (sl : List (Nat × SV)) : Op → Nat
  | .alloc _ => 1
  | .box _ _ => 1
  | .buildSlice _ _ _ => 1
  | .makeSlice _ _ _ => 1
  | .makeMap _ _ => 1
  | .convert _ d x => match P.underlying d, evH sl x with | some (.slice _), some (.v (.c (.str _))) => 1 | _, _ => 0
  | .store _ _ y => match evH sl y with | some (.v (.c (.vw _ _ _ _))) => 1 | _ => 0
  | .call c => match c.callee with
    | .builtin .append => 1
    | .value x => (match evH sl x with
      | some (.v (.c (.bnd f _))) => mxL (tbl f)
      | some (.v (.c fv)) => (match fnOf fv with | some (f, _) => mxL (tbl f) | none => 0)
      | _ => 0)
    | .invoke x name => (match evH sl x with
      | some (.v (.c (.ifc t _))) => (match mthOf P t name with | some f => mxL (tbl f) | none => 0)
      | _ => 0)
    | _ => 0
  | _ => 0
def isView (sl : List (Nat × SV)) (s : Operand) : Bool := match evH sl s with
  | some (.v (.c (.vw _ _ l _))) => Nat.ble 1 l
  | _ => false
def stepC (P : Program) (tbl : FuncId → List FSp) (sl : List (Nat × SV)) (f m : Nat) (cl : Callee) (args : List Operand) (ats : List TypeId) : Tr := match cl with
  | .value x => tCall P tbl sl f m x args
  | .invoke x name => tInv P tbl sl f m x name args
  | .builtin b => (match b, args, ats with
    | .append, [s, x], [t, t'] => (match P.underlying t' with | some (.int _) => tAppZ P sl f t t' s x | some .string => tAppS P sl f t t' s x | _ => (match isView sl s with | true => tAppV P sl t t' s x | false => tApp P sl f t t' s x))
    | .len, [x], [t] => tLenF P sl t x
    | .cap, [x], [t] => tCap P sl t x
    | .clear, [x], [t] => tClear P sl t x
    | .copy, [x, y], [t, _] => tCopy P sl t x y
    | b, [x, y], _ => tMM b sl x y
    | _, _, _ => .no)
def stepH (P : Program) (tbl : FuncId → List FSp) (sl : List (Nat × SV)) (f : Nat) (op : Op) (ty : TypeId) : Tr := match op with
  | .move x => tMove sl x
  | .assign x => tMove sl x
  | .pick c x y => tPick sl c x y
  | .alloc t => tAlloc P f t
  | .box t x => tBox sl f t x
  | .build t parts => tBuild P sl t parts.toList
  | .buildSlice t len parts => tLitF P sl f t len parts.toList
  | .load t x => tLoad P sl t x
  | .store t x y => tStoreC P sl f t x y
  | .nilCheck x => tNil sl x
  | .binOp op t x y _ => tBin P sl op t x y
  | .unOp op _ x => tUn sl op x
  | .convert s d x => tBytes P sl f s d x
  | .makeFunc fn first captured => tFn sl fn first.toList captured.toList
  | .makeMap t r => tMakeMap P f t r
  | .mapUpdate t m k v => tMapUpd P sl t m k v
  | .insert t m k v => tMapUpd P sl t m k v
  | .lookup t m k ok => tLkp P sl t m k ok
  | .makeInterface t x => tIfc P sl t x
  | .makeSlice t x y => tMake P sl f t x y
  | .slice t x lo hi none => tSlice P sl t x lo hi
  | .fieldAddr t x i => tFieldA P sl t x i
  | .field t x i => tField P sl t x i
  | .indexAddr t x i => tIndexF P sl t x i
  | .index t x i => tIndex P sl t x i
  | .extract x i => tExtract sl x i
  | .call c => stepC P tbl sl f (stepM P tbl sl op) c.callee c.args.toList c.argTypes.toList
  | _ => .no
section
variable {P : Program} {n : Nat} {ty : TypeId} {sl : List (Nat × SV)} {bl bl' : List BV} {v : SV} {f : Nat}
theorem stepC_ok {tbl : FuncId → List FSp} (hT : ∀ f S, S ∈ tbl f → FOk P f S) {c : Call} (hf : ∀ i, i < stepM P tbl sl (.call c) → bl[f + i]? = some .hole) (h : Told f (stepC P tbl sl f (stepM P tbl sl (.call c)) c.callee c.args.toList c.argTypes.toList) bl bl' v) : EffH P n (.call c) ty sl bl bl' v := by
  obtain ⟨cl, args, ats⟩ := c
  cases cl with
  | value x =>
    have := tCall_ok (n := n) (ty := ty) (ats := ats) hT hf h
    simpa using this
  | invoke x name =>
    have := tInv_ok (n := n) (ty := ty) (ats := ats) hT hf h
    simpa using this
  | builtin b =>
    simp only [stepC] at h
    split at h
    · rename_i s x t t' ha ht
      have ha : args = #[s, x] := by rw [← Array.toArray_toList (xs := args), ha]
      have ht : ats = #[t, t'] := by rw [← Array.toArray_toList (xs := ats), ht]
      subst ha; subst ht
      split at h
      · exact tAppZ_ok (by have := hf 0 (by simp [stepM]); simpa using this) h
      · exact tAppS_ok (by have := hf 0 (by simp [stepM]); simpa using this) h
      · split at h
        · exact tAppV_ok h
        · exact tApp_ok (by have := hf 0 (by simp [stepM]); simpa using this) h
    · rename_i x t ha ht
      have ha : args = #[x] := by rw [← Array.toArray_toList (xs := args), ha]
      have ht : ats = #[t] := by rw [← Array.toArray_toList (xs := ats), ht]
      subst ha; subst ht
      exact tLenF_ok h
    · rename_i x t ha ht
      have ha : args = #[x] := by rw [← Array.toArray_toList (xs := args), ha]
      have ht : ats = #[t] := by rw [← Array.toArray_toList (xs := ats), ht]
      subst ha; subst ht
      exact tCap_ok h
    · rename_i x t ha ht
      have ha : args = #[x] := by rw [← Array.toArray_toList (xs := args), ha]
      have ht : ats = #[t] := by rw [← Array.toArray_toList (xs := ats), ht]
      subst ha; subst ht
      exact tClear_ok h
    · rename_i x y t t' ha ht
      have ha : args = #[x, y] := by rw [← Array.toArray_toList (xs := args), ha]
      have ht : ats = #[t, t'] := by rw [← Array.toArray_toList (xs := ats), ht]
      subst ha; subst ht
      exact tCopy_ok h
    · rename_i x y ha _ _
      have ha : args = #[x, y] := by rw [← Array.toArray_toList (xs := args), ha]
      subst ha
      exact tMM_ok h
    · exact h.elim
theorem stepH_ok {tbl : FuncId → List FSp} (hT : ∀ f S, S ∈ tbl f → FOk P f S) {op : Op} (hf : ∀ i, i < stepM P tbl sl op → bl[f + i]? = some .hole) (h : Told f (stepH P tbl sl f op ty) bl bl' v) : EffH P n op ty sl bl bl' v := by
  have h1 : 0 < stepM P tbl sl op → bl[f]? = some .hole := fun h0 => by simpa using hf 0 h0
  cases op with
  | move x => exact (tMove_ok h).1
  | assign x => exact (tMove_ok h).2
  | pick c x y => exact tPick_ok h
  | alloc t => exact tAlloc_ok (h1 (by simp [stepM])) h
  | box t x => exact tBox_ok (h1 (by simp [stepM])) h
  | build t parts => simpa using tBuild_ok (n := n) (ty := ty) h
  | buildSlice t len parts => simpa using tLitF_ok (n := n) (ty := ty) (h1 (by simp [stepM])) h
  | load t x => exact tLoad_ok h
  | store t x y => exact tStoreC_ok (fun rb c l r e => h1 (by simp [stepM, e])) h
  | nilCheck x => exact tNil_ok h
  | binOp op t x y u => exact tBin_ok h
  | unOp op t x => exact tUn_ok h
  | convert s d x => exact tBytes_ok (fun l e hd hx => by have := hf 0 (by simp [stepM, hd, hx]); simpa using this) h
  | makeFunc fn first captured => simpa using tFn_ok (n := n) (ty := ty) h
  | makeInterface t x => exact tIfc_ok h
  | makeMap t r => exact tMakeMap_ok (h1 (by simp [stepM])) h
  | mapUpdate t m k u => exact tMapUpd_ok h
  | insert t m k u => exact tMapIns_ok h
  | lookup t m k ok => exact tLkp_ok h
  | makeSlice t x y => exact tMake_ok (h1 (by simp [stepM])) h
  | slice t x lo hi mx => cases mx with
    | none => exact tSlice_ok h
    | some _ => exact h.elim
  | fieldAddr t x i => exact tFieldA_ok h
  | field t x i => exact tField_ok h
  | indexAddr t x i => exact tIndexF_ok h
  | index t x i => exact tIndex_ok h
  | extract x i => exact tExtract_ok h
  | call c => exact stepC_ok hT hf h
  | _ => exact h.elim
end
abbrev Tbl := List (FuncId × FSp)
def lkT : Tbl → FuncId → List FSp
  | [], _ => []
  | (f, S) :: l, g => cond (Nat.beq f g) (S :: lkT l g) (lkT l g)
structure TOk (P : Program) (T : Tbl) : Prop where
  ok : ∀ f S, S ∈ lkT T f → FOk P f S
theorem TOk.nil {P : Program} : TOk P [] := ⟨fun f S h => by cases h⟩
theorem TOk.cons {P : Program} {T : Tbl} {f : FuncId} {S : FSp} (h : TOk P T) (k : FOk P f S) : TOk P ((f, S) :: T) := ⟨fun g S' hm => by
  unfold lkT at hm
  cases hb : Nat.beq f g with
  | true =>
    rw [hb] at hm
    have := Nat.eq_of_beq_eq_true hb
    subst this
    rcases List.mem_cons.1 hm with rfl | hm
    · exact k
    · exact h.ok _ _ hm
  | false => rw [hb] at hm; exact h.ok _ _ hm⟩
def stpT (P : Program) (T : Tbl) (h : TOk P T) : Stp P := ⟨stepH P (lkT T), stepM P (lkT T), fun hf hT => stepH_ok h.ok hf hT⟩
theorem FOk.run_eq {P : Program} {f : FuncId} {ps : Sch} {rs : List Sch} {r1 r2 : HT ps.tr → Option (ALT rs)} (h : FOk P f ⟨ps, rs, r1⟩) (e : ∀ t, r1 t = r2 t) : FOk P f ⟨ps, rs, r2⟩ := by
  have : r1 = r2 := funext e
  rwa [← this]
theorem FOk.of_none {P : Program} {f : FuncId} {S : FSp} (h : ∀ t, S.run t = none) : FOk P f S := fun t r st0 hr => by rw [h t] at hr; cases hr
set_option maxRecDepth 100000
def rI : List Sch := [⟨[(0, .v (.c (.i .i64)))], []⟩]
theorem FOk_int {P : Program} {f : FuncId} {ps : Sch} {run : HT ps.tr → Option Int}
    (h : ∀ t r st0, run t = some r → conT ps t = some st0 → st0.bl = [] ∧ ∀ g ρ own vs, Rl g ρ st0 own (argS 0 vs) → vs.length = ps.sl.length → inK .i64 r ∧ ∀ w, Calls P f vs.toArray w fun e w' => e = .returned (.int .i64 r) ∧ w' = w) : FOk P f ⟨ps, rI, run⟩ := by
  intro t r st0 hr hc g ρ own vs hR hl w hs
  obtain ⟨h0, h⟩ := h t r st0 hr hc
  obtain ⟨h1, h2⟩ := h g ρ own vs hR hl
  refine (h2 w).mono fun e w' ⟨he, hb⟩ => ⟨_, g, [], he, .refl g, ⟨by rw [hb]; exact hs.r, List.nodup_nil, fun k hk => (by cases hk), fun k hk => (by cases hk)⟩, ⟨[(0, vC (.int .i64 r))], []⟩, ρ, rfl, rfl, ⟨rfl, fun i bv k e => (by cases e), fun t sv e => ?_, hR.gi⟩, fun j hj => (by rw [h0] at hj; cases hj)⟩
  have e : cond (Nat.beq 0 t) (some (vC (.int .i64 r))) none = some sv := e
  obtain ⟨e1, e2⟩ := condS e
  injection e2 with e2; subst e2
  have := Nat.eq_of_beq_eq_true e1
  subst this
  exact ⟨_, rfl, rfl, h1⟩
theorem two {vs : List Value} (h : vs.length = 2) : ∃ a b, vs = [a, b] := by
  match vs, h with
  | [a, b], _ => exact ⟨a, b, rfl⟩
theorem indexByte_lt (l : List UInt8) (c : UInt8) : Lib.indexByte l c < (l.length : Int) ∨ Lib.indexByte l c = -1 := by
  induction l with
  | nil => exact .inr rfl
  | cons b l ih =>
    unfold Lib.indexByte
    have hl : ((b :: l).length : Int) = (l.length : Int) + 1 := by simp
    split
    · left; omega
    · split
      · exact .inr rfl
      · rename_i h1 h2
        rcases ih with h | h
        · left; omega
        · rw [h] at h2; exact absurd rfl h2
def ixB (c : UInt8) : List UInt8 → Int → Int
  | [], _ => -1
  | b :: l, k => cond (b == c) k (ixB c l (k + 1))
theorem ixB_eq (c : UInt8) : ∀ (l : List UInt8) (k : Int), 0 ≤ k → ixB c l k = (if Lib.indexByte l c = -1 then -1 else Lib.indexByte l c + k)
  | [], k, _ => rfl
  | b :: l, k, hk => by
    have hge := Lib.indexByte_ge l c
    unfold ixB Lib.indexByte
    cases e : (b == c) with
    | true => simp
    | false =>
      simp only [cond_false, Bool.false_eq_true, if_false]
      rw [ixB_eq c l (k + 1) (by omega)]
      by_cases h : Lib.indexByte l c = -1
      · rw [if_pos h, h]; rfl
      · have : (Lib.indexByte l c == -1) = false := by simpa using h
        rw [if_neg h, this]
        simp only [Bool.false_eq_true, if_false]
        rw [if_neg (by omega)]; omega
theorem mkS_data (s : List UInt8) : (mkS s).data.toList = s := by simp [mkS]
def p286 : Sch := ⟨[(0, .v (.c (.s))), (1, .v (.c (.i .u8)))], []⟩
def o286 (s : List UInt8) (c : Int) : Option Int := some (ixB (u8 c) s 0)
theorem fo286 : FOk Tryz.prog 286 ⟨p286, rI, fun t => o286 t.1 t.2⟩ := FOk_int fun (t : List UInt8 × Int) r st0 hr hc => by
  obtain ⟨s, c⟩ := t
  have hc : some (⟨[(0, vC (.str s)), (1, vC (.int .u8 c))], []⟩ : HSt) = some st0 := hc
  injection hc with hc; subst hc
  refine ⟨rfl, fun g ρ own vs hR hl => ?_⟩
  obtain ⟨a, b, rfl⟩ := two hl
  obtain ⟨v1, h1, h2⟩ := hR.slot 0 _ rfl
  injection h1 with h1; subst h1
  obtain ⟨v2, h3, h4⟩ := hR.slot 1 _ rfl
  injection h3 with h3; subst h3
  obtain ⟨h2, hls⟩ : a = .string (mkS s) ∧ s.length ≤ 1125899906842624 := h2
  obtain ⟨h4, _⟩ : b = .int .u8 c ∧ inK .u8 c := h4
  subst h2; subst h4
  have hr : some (ixB (u8 c) s 0) = some r := hr
  injection hr with hr
  have hr : r = Lib.indexByte s (u8 c) := by
    rw [← hr, ixB_eq _ _ _ (Int.le_refl 0)]
    split
    · rename_i h; exact h.symm
    · omega
  subst hr
  have hge := Lib.indexByte_ge s (u8 c)
  have hlt := indexByte_lt s (u8 c)
  refine ⟨by simp [inK, IntKind.min, IntKind.max, IntKind.signed, IntKind.bits]; omega, fun w => ?_⟩
  have hdata : (mkS s).data.toList = s := by simp [mkS]
  go_enter Tryz.func286, (show (Tryz.f286).ntmps = 8 from rfl)
  go_wp2
  rw [run_callFunc_extern Tryz.func308 (by kernel_rfl) (by kernel_rfl) (by kernel_rfl) (e := Extern.BytealgIndexByte.indexByte) (by kernel_rfl), Lib.run_indexByteString]
  simp only [Result.andThen]
  rw [Oper.upon_value]
  go_wp2
  go_ret
  exact ⟨rfl, rfl⟩
theorem compareBytes_in : ∀ s c : List UInt8, compareBytes s c = -1 ∨ compareBytes s c = 0 ∨ compareBytes s c = 1
  | [], [] => by simp [compareBytes]
  | [], _ :: _ => by simp [compareBytes]
  | _ :: _, [] => by simp [compareBytes]
  | a :: s, b :: c => by
    unfold compareBytes
    have ih := compareBytes_in s c
    split
    · simp
    · split
      · simp
      · exact ih
def p174 : Sch := ⟨[(0, .v (.c (.s))), (1, .v (.c (.s)))], []⟩
def o174 (s c : List UInt8) : Option Int := some (compareBytes s c)
theorem fo174 : FOk Tryz.prog 174 ⟨p174, rI, fun t => o174 t.1 t.2⟩ := FOk_int fun (t : List UInt8 × List UInt8) r st0 hr hc => by
  obtain ⟨s, c⟩ := t
  have hc : some (⟨[(0, vC (.str s)), (1, vC (.str c))], []⟩ : HSt) = some st0 := hc
  injection hc with hc; subst hc
  refine ⟨rfl, fun g ρ own vs hR hl => ?_⟩
  obtain ⟨a, b, rfl⟩ := two hl
  obtain ⟨v1, h1, h2⟩ := hR.slot 0 _ rfl
  injection h1 with h1; subst h1
  obtain ⟨v2, h3, h4⟩ := hR.slot 1 _ rfl
  injection h3 with h3; subst h3
  obtain ⟨h2, hls⟩ : a = .string (mkS s) ∧ s.length ≤ 1125899906842624 := h2
  obtain ⟨h4, hlc⟩ : b = .string (mkS c) ∧ c.length ≤ 1125899906842624 := h4
  subst h2; subst h4
  have hr : some (compareBytes s c) = some r := hr
  injection hr with hr
  subst hr
  have hin := compareBytes_in s c
  refine ⟨by simp [inK, IntKind.min, IntKind.max, IntKind.signed, IntKind.bits]; omega, fun w => ?_⟩
  go_enter Tryz.func174, (show (Tryz.f174).ntmps = 8 from rfl)
  go_wp2
  rw [run_callFunc_extern Tryz.func240 (by kernel_rfl) (by kernel_rfl) (by kernel_rfl) (e := Extern.BytealgCompare.compare) (by kernel_rfl), Lib.run_compareString]
  simp only [Result.andThen]
  rw [Oper.upon_value]
  go_wp2
  go_ret
  simp [mkS_data]
def p204 : Sch := ⟨[(0, .v (.c (.s))), (1, .v (.c (.s)))], []⟩
def o204 (s c : List UInt8) : Option Int := cond (c.length == 1) (some ((countByte s (c.getD 0 0) : Nat) : Int)) none
theorem fo204 : FOk Tryz.prog 204 ⟨p204, rI, fun t => o204 t.1 t.2⟩ := FOk_int fun (t : List UInt8 × List UInt8) r st0 hr hc => by
  obtain ⟨s, c⟩ := t
  have hc : some (⟨[(0, vC (.str s)), (1, vC (.str c))], []⟩ : HSt) = some st0 := hc
  injection hc with hc; subst hc
  refine ⟨rfl, fun g ρ own vs hR hl => ?_⟩
  obtain ⟨a, b, rfl⟩ := two hl
  obtain ⟨v1, h1, h2⟩ := hR.slot 0 _ rfl
  injection h1 with h1; subst h1
  obtain ⟨v2, h3, h4⟩ := hR.slot 1 _ rfl
  injection h3 with h3; subst h3
  obtain ⟨h2, hls⟩ : a = .string (mkS s) ∧ s.length ≤ 1125899906842624 := h2
  obtain ⟨h4, hlc⟩ : b = .string (mkS c) ∧ c.length ≤ 1125899906842624 := h4
  subst h2; subst h4
  have hr : cond (c.length == 1) (some ((countByte s (c.getD 0 0) : Nat) : Int)) none = some r := hr
  obtain ⟨hc1, hr⟩ := condS hr
  injection hr with hr
  subst hr
  have hc1 : c.length = 1 := by simpa using hc1
  obtain ⟨x, rfl⟩ : ∃ x, c = [x] := by
    match c, hc1 with
    | [x], _ => exact ⟨x, rfl⟩
  have hle : countByte s x ≤ s.length := List.count_le_length
  refine ⟨by simp [inK, IntKind.min, IntKind.max, IntKind.signed, IntKind.bits]; omega, fun w => ?_⟩
  go_enter Tryz.func204, (show (Tryz.f204).ntmps = 34 from rfl)
  go_wp2
  · rw [run_callFunc_extern Tryz.func252 (by kernel_rfl) (by kernel_rfl) (by kernel_rfl) (e := Extern.BytealgCount.count) (by kernel_rfl), Lib.run_countString]
    simp only [Result.andThen]
    rw [Oper.upon_value]
    go_wp2
    go_ret
    exact ⟨rfl, rfl⟩
  · rename_i h0
    exact absurd (show 0 < (mkS [x]).size by rw [mkS_size]; exact Nat.one_pos) h0
def lays156_ren : Go.Shelf.Ren := ⟨fun | 156 => 53 | 165 => 114 | 166 => 52 | 169 => 62 | 240 => 113 | 241 => 177 | 276 => 176 | 277 => 241 | n => n, fun | 31 => 133 | 9 => 9 | 3 => 3 | 4 => 4 | 0 => 0 | 20 => 20 | 72 => 132 | 76 => 136 | 70 => 130 | 37 => 33 | 75 => 135 | 127 => 217 | 164 => 272 | 5 => 5 | 80 => 147 | n => n, fun | n => n⟩
theorem lays156 : Go.Proofs.Lays.n156 Tryz.prog lays156_ren where
  mixed := by kernel_rfl
  f156 := Tryz.func53.trans (congrArg some (by kernel_rfl))
  f165 := Tryz.func114.trans (congrArg some (by kernel_rfl))
  f166 := Tryz.func52.trans (congrArg some (by kernel_rfl))
  f169 := Tryz.func62.trans (congrArg some (by kernel_rfl))
  f240 := Tryz.func113.trans (congrArg some (by kernel_rfl))
  f241 := Tryz.func177.trans (congrArg some (by kernel_rfl))
  f276 := Tryz.func176.trans (congrArg some (by kernel_rfl))
  f277 := Tryz.func241.trans (congrArg some (by kernel_rfl))
  t0 := Tryz.underlying0
  a0 := Tryz.isAgg0
  z0 := Tryz.sizeOf0
  v0 := Tryz.zeroValue0
  t3 := Tryz.underlying3
  a3 := Tryz.isAgg3
  z3 := Tryz.sizeOf3
  v3 := Tryz.zeroValue3
  t4 := Tryz.underlying4
  a4 := Tryz.isAgg4
  z4 := Tryz.sizeOf4
  v4 := Tryz.zeroValue4
  t9 := Tryz.underlying9
  a9 := Tryz.isAgg9
  z9 := Tryz.sizeOf9
  v9 := Tryz.zeroValue9
  t20 := Tryz.underlying20
  a20 := Tryz.isAgg20
  z20 := Tryz.sizeOf20
  v20 := Tryz.zeroValue20
  t31 := Tryz.underlying133
  a31 := Tryz.isAgg133
  z31 := Tryz.sizeOf133
  v31 := Tryz.zeroValue133
  t37 := Tryz.underlying33
  a37 := Tryz.isAgg33
  z37 := Tryz.sizeOf33
  v37 := Tryz.zeroValue33
  t70 := Tryz.underlying130
  a70 := Tryz.isAgg130
  z70 := Tryz.sizeOf130
  v70 := Tryz.zeroValue130
  t72 := Tryz.underlying132
  a72 := Tryz.isAgg132
  z72 := Tryz.sizeOf132
  v72 := Tryz.zeroValue132
  t75 := Tryz.underlying135
  a75 := Tryz.isAgg135
  z75 := Tryz.sizeOf135
  v75 := Tryz.zeroValue135
  t76 := Tryz.underlying136
  a76 := Tryz.isAgg136
  z76 := Tryz.sizeOf136
  v76 := Tryz.zeroValue136
  t127 := Tryz.underlying217
  a127 := Tryz.isAgg217
  z127 := Tryz.sizeOf217
  v127 := Tryz.zeroValue217
  t164 := Tryz.underlying272
  a164 := Tryz.isAgg272
  z164 := Tryz.sizeOf272
  v164 := Tryz.zeroValue272
theorem extra156 : Builder.Extra Tryz.prog lays156_ren where
  sizeBuilder := by kernel_rfl
  liesBuilder := by kernel_rfl
  t5 := Tryz.underlying5
  a5 := Tryz.isAgg5
  z5 := Tryz.sizeOf5
  v5 := Tryz.zeroValue5
  infoByte := by kernel_rfl
  cellsByte := by kernel_rfl
  sizeByte := by kernel_rfl
  neB5 := by decide
def rS : List Sch := [⟨[(0, .v (.c .s))], []⟩]
theorem FOk_textR {P : Program} {f : FuncId} {ps : Sch} {run : HT ps.tr → Option (List UInt8)}
    (h : ∀ t r st0, run t = some r → conT ps t = some st0 → st0.bl = [] ∧ ∀ g ρ own vs, Rl g ρ st0 own (argS 0 vs) → vs.length = ps.sl.length → r.length ≤ 140737488355328 ∧ ∀ w, g.b.le g.r → g.r.In w → Calls P f vs.toArray w fun e w' => e = .returned (.string (mkS r)) ∧ Below w.heap.size w w') : FOk P f ⟨ps, rS, run⟩ := by
  intro t r st0 hr hc g ρ own vs hR hl w hs
  obtain ⟨h0, h⟩ := h t r st0 hr hc
  obtain ⟨h1, h2⟩ := h g ρ own vs hR hl
  refine (h2 w g.br hs.r).mono fun e w' ⟨he, hb⟩ => ⟨_, g, [], he, .refl g, ⟨⟨hb.os.trans hs.r.os, hb.tape.trans hs.r.tape, hb.output.trans hs.r.out, fun b o e => ?_⟩, List.nodup_nil, fun k hk => (by cases hk), fun k hk => (by cases hk)⟩, ⟨[(0, vC (.str r))], []⟩, ρ, rfl, rfl, ⟨rfl, fun i bv k e => (by cases e), fun t sv e => ?_, hR.gi⟩, fun j hj => (by rw [h0] at hj; cases hj)⟩
  · have h1 := hs.r.m b o e
    have hlt : b < w.heap.size := (Array.getElem?_eq_some_iff.1 h1).1
    rw [hb.block b hlt]; exact h1
  · have e : cond (Nat.beq 0 t) (some (vC (.str r))) none = some sv := e
    obtain ⟨e1, e2⟩ := condS e
    injection e2 with e2; subst e2
    have := Nat.eq_of_beq_eq_true e1
    subst this
    exact ⟨_, rfl, rfl, Nat.le_trans h1 (by decide)⟩
def jnT (sep : List UInt8) : List (List UInt8) → List UInt8
  | [] => []
  | x :: l => sep ++ (x ++ jnT sep l)
def jnS (sep : List UInt8) : List (List UInt8) → List UInt8
  | [] => []
  | x :: l => x ++ jnT sep l
theorem jnT_eq (sep : List UInt8) : ∀ l, jnT sep l = Lib.joinTail sep l
  | [] => rfl
  | x :: l => by
    show sep ++ (x ++ jnT sep l) = _
    rw [jnT_eq sep l]; simp [Lib.joinTail]
theorem jnS_eq (sep : List UInt8) : ∀ l, jnS sep l = Lib.join l sep
  | [] => rfl
  | x :: l => by
    show x ++ jnT sep l = _
    rw [jnT_eq, Lib.join_cons]
theorem tyS_reps {p : Psi} {cs : List Value} : ∀ {l : List (List UInt8)}, Reps Cd.s.ty p cs l → cs = l.map fun x => .string (mkS x)
  | [], h => h
  | x :: l, ⟨c1, c2, e, h1, h2⟩ => by
    obtain ⟨h1, _⟩ : c1 = [.string (mkS x)] ∧ x.length ≤ 1125899906842624 := h1
    rw [e, h1, tyS_reps h2]; rfl
def p53 : Sch := ⟨[(0, .v (.c (.ro .s false))), (1, .v (.c (.s)))], []⟩
def o53 (l : List (List UInt8)) (sep : List UInt8) : Option (List UInt8) := cond (decide ((jnS sep l).length ≤ 140737488355328)) (some (jnS sep l)) none
theorem fo53 : FOk Tryz.prog 53 ⟨p53, rS, fun t => o53 t.1 t.2⟩ := FOk_textR fun (t : List (List UInt8) × List UInt8) r st0 hr hc => by
  obtain ⟨l, sep⟩ := t
  have hc : some (⟨[(0, vC (.ro .s l false)), (1, vC (.str sep))], []⟩ : HSt) = some st0 := hc
  injection hc with hc; subst hc
  have hr : cond (decide ((jnS sep l).length ≤ 140737488355328)) (some (jnS sep l)) none = some r := hr
  obtain ⟨hlen, hr⟩ := condS hr
  have hlen := of_decide_eq_true hlen
  injection hr with hr; subst hr
  refine ⟨rfl, fun g ρ own vs hR hl => ?_⟩
  obtain ⟨a, b, rfl⟩ := two hl
  obtain ⟨v1, h1, h2⟩ := hR.slot 0 _ rfl
  injection h1 with h1; subst h1
  obtain ⟨v2, h3, h4⟩ := hR.slot 1 _ rfl
  injection h3 with h3; subst h3
  obtain ⟨A, cap, h2, ha⟩ : ∃ A cap, a = .slice A l.length cap ∧ ArrM g.r g.b Cd.s.ty A cap l := h2
  obtain ⟨h4, hls⟩ : b = .string (mkS sep) ∧ sep.length ≤ 1125899906842624 := h4
  subst h2; subst h4
  refine ⟨hlen, fun w hbr hw => ?_⟩
  have hmk : ∀ l : List (List UInt8), (l.map mkS).map (fun x => x.data.toList) = l := fun l => by
    rw [List.map_map]; conv => rhs; rw [← List.map_id l]
    apply List.map_congr_left; intro x _; simp [mkS]
  have hj : (Lib.join ((l.map mkS).map (fun x => x.data.toList)) (mkS sep).data.toList) = jnS sep l := by rw [hmk, mkS_data, jnS_eq]
  cases l with
  | nil =>
    exact (Any.strings_Join_none lays156 extra156 A cap (mkS sep) w).mono fun e w' ⟨he, hw'⟩ => ⟨he, hw' ▸ Below.refl _ _⟩
  | cons x l =>
    obtain ⟨cs, hrep, hrow⟩ := ha.row
    obtain ⟨ad, rfl, hcells⟩ := hrow (Nat.succ_pos _)
    have hcs := tyS_reps hrep
    subst hcs
    have hsp : ad.spot = none := by
      have h0 := hcells 0 _ rfl
      have h0 := hw.cell h0
      unfold World.cell? at h0
      have e0 : (ad.add 0).spot = ad.spot := by rw [addr_zero]
      split at h0
      · rw [e0] at h0
        cases e : ad.spot with
        | none => rfl
        | some y => rw [e] at h0; cases h0
      · cases h0
    obtain ⟨bk, o, spot⟩ := ad
    subst hsp
    have hc : ∀ (j : Nat) y, ((x :: l).map mkS)[j]? = some y → w.cell? ⟨bk, o + j, none⟩ = some (.string y) := fun j y hy => by
      have h0 := hw.cell (hcells j (.string y) (by
        rw [List.getElem?_map] at hy ⊢
        cases e : (x :: l)[j]? with
        | none => rw [e] at hy; cases hy
        | some z => rw [e] at hy; injection hy with hy; subst hy; rfl))
      rwa [addr_add] at h0
    have hbk : bk < w.heap.size := by
      have h0 := hc 0 _ rfl
      unfold World.cell? at h0
      split at h0
      · rename_i h1; exact (Array.getElem?_eq_some_iff.1 h1).1
      · cases h0
    have hc1 := Any.strings_Join (P := Tryz.prog) lays156 extra156 bk o cap ((x :: l).map mkS) (mkS sep) w hc hbk (by rw [List.length_map]; exact ha.len) (by rw [List.length_map]; exact ha.cap) (by rw [hj]; exact hlen)
    rw [List.length_map, hj] at hc1
    exact hc1
end Go.Proofs.YtpglaekodahcoaaGreatDoor
