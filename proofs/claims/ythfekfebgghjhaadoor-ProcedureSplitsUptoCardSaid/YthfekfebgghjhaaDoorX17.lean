/-
What the package variable leg.uses holds when a call begins. Conditions: each lemma's own.
-/
import Derived.Test.YthfekfebgghjhaaDoorED
import Derived.Test.YthfekfebgghjhaaDoorRows
import Derived.LaidMore
import Derived.Stop.Joined
namespace Go.Proofs.YthfekfebgghjhaaDoor
set_option linter.unusedVariables false
set_option linter.unusedSimpArgs false
open Go.RowKit Go.WideShapes Go.ChangeShapes Go.ChangeAt
def laidU : List (String × DataW Unit) := [("flightdeck/leg.uses", Rows.laid_flightdeck_leg_uses)]
theorem gUses : Tryd.prog.globalNamed "flightdeck/leg.uses" = some 0 := by kernel_rfl
theorem tUses : (Tryd.prog.globals[0]?).map (·.type) = some 72 := by kernel_rfl
theorem door_met (os : Os) (args : Array Value) : laidMetH Tryd.prog laidU ((World.doorLaid Tryd.prog 400 os).forCall (fun _ _ => 0) ⟨#[], args, []⟩).memory :=
  laidMetH_of_parts3 (fuel := 8) (laidMet_of_run' 8 (by kernel_rfl) (by kernel_rfl)) (by kernel_rfl) (by kernel_rfl)
theorem arr_of_trod {H : Type} {enc : TypeId × Value → H} {P : Program} {w : World} {base : Nat} {sp : Nat → Bool} {held : Bool} {fuel : Nat} {t e : TypeId} {n : Nat} {k : IntKind} {cs : List Value} {zs : List Int} {q : List MemPlace}
    (ht : P.underlying t = some (.array n e)) (he : P.underlying e = some (.int k)) (hc : P.cellsOf e = 1) (hl : P.cellsOf t = n) (hz : zs.length = n) (h : DataW.trod enc P w base sp held fuel t cs = some (.agg (zs.map fun z => .lit (.int k z)), q)) : cs = zs.map (Value.int k) := by
  obtain ⟨xs, m, rfl, hx, hlen, hn, hel⟩ := DataW.trod_array ht h
  simp only [Prod.mk.injEq, DataW.agg.injEq] at hx
  apply List.ext_getElem?
  intro i
  by_cases hi : i < n
  · have h1 := hel i hi
    rw [hc, Nat.mul_one, List.getElem?_eq_getElem (by omega : i < xs.length)] at h1
    obtain ⟨z, e1, e2, _⟩ := DataW.trod_int he h1
    have h2 : cs[i]? = some (.int k z) := by
      have : ((cs.drop i).take 1)[0]? = some (Value.int k z) := by rw [e1]; rfl
      rw [List.getElem?_take, if_pos (by decide), List.getElem?_drop, Nat.add_zero] at this
      exact this
    have h3 : (zs.map fun z => (DataW.lit (.int k z) : DataW H))[i]? = (xs.map (·.1))[i]? := by rw [hx.1]
    rw [List.getElem?_map, List.getElem?_map, List.getElem?_eq_getElem (by omega : i < zs.length), List.getElem?_eq_getElem (by omega : i < xs.length), e2] at h3
    simp only [Option.map_some, Option.some.injEq, DataW.lit.injEq, Lit.int.injEq, true_and] at h3
    rw [h2, List.getElem?_map, List.getElem?_eq_getElem (by omega : i < zs.length), h3]; rfl
  · rw [List.getElem?_eq_none (by omega), List.getElem?_eq_none (by rw [List.length_map]; omega)]
theorem reps_ints {k : IntKind} (p : Psi) : ∀ zs : List Int, Reps (tyI k) p (zs.map (Value.int k)) zs
  | [] => rfl
  | z :: l => reps_cons (c := [Value.int k z]) (show (tyI k).rep p _ _ from rfl) (reps_ints p l)
theorem of_laid {W : World} (h : laidMetH Tryd.prog laidU W) : Arr (gh0 W).r (tyI .u16) (some ⟨0, 0, none⟩) 18 usesL := by
  rw [MakeChecks.laidMetH_plain _ _ _ (by kernel_rfl)] at h
  obtain ⟨ps, ⟨g0, t0, cs0, f0, p0, q0, hg0, ht0, hv0, hd0, _, _⟩, _, _⟩ := h
  obtain rfl := Option.some.inj (gUses.symm.trans hg0)
  obtain rfl := Option.some.inj (tUses.symm.trans ht0)
  have hcs := arr_of_trod (zs := usesL) Tryd.underlying72 Tryd.underlying71 (by kernel_rfl) (by kernel_rfl) rfl hd0
  refine ⟨by decide, by decide, _, reps_ints _ usesL, fun _ => ⟨_, rfl, fun j v hj => ?_⟩⟩
  have := World.var?_cell hg0 hv0 j
  rw [← hcs] at hj
  rw [addr_add, Nat.zero_add]
  show (psiOf W).cell? _ = some v
  have e : W.cell? ⟨0, j, none⟩ = some v := by rw [this]; simpa using hj
  unfold World.cell? at e
  unfold Psi.cell? psiOf
  exact e
end Go.Proofs.YthfekfebgghjhaaDoor
