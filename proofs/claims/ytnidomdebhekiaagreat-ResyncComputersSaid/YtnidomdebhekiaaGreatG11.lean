/-
The second engine, part 11: frames that are cut to some slots, without their values spelled out. Conditions: each lemma's own.
-/
import Derived.Test.YtnidomdebhekiaaGreatG10
namespace Go.Proofs.YtnidomdebhekiaaGreat
set_option linter.unusedVariables false
set_option linter.unusedSimpArgs false
open Go.RowKit
def keepS (ks : List Nat) (sl : Sl) : Sl := ks.map fun t => (t, (getS sl t).getD undef)
def hasS (ks : List Nat) (sl : Sl) : Bool := match ks with | [] => true | t :: l => match getS sl t with | some _ => hasS l sl | none => false
theorem keep_ok {sl : Sl} : ∀ {ks : List Nat}, hasS ks sl = true → (keepS ks sl).map (fun p => getS sl p.1) = (keepS ks sl).map (fun p => some p.2)
  | [], _ => rfl
  | t :: l, h => by
    unfold hasS at h
    cases e : getS sl t with
    | none => rw [e] at h; cases h
    | some v =>
      rw [e] at h
      have ih := keep_ok (ks := l) h
      unfold keepS at ih ⊢
      simp only [List.map_cons, e, Option.getD_some, List.cons.injEq, true_and]
      exact ih
section
variable {P : Program} {ops : Array Oper} {Q : Exit → Act → World → Prop} {n : Nat} {g : Gh} {own : Own} {sl : Sl}
theorem xc {K : Act → World → Prop} (ks : List Nat) (k : WPq K n g own (keepS ks sl)) (h : hasS ks sl = true := by kernel_rfl) : WPq K n g own sl := wpq_sub _ (keep_ok h) k
theorem xb {i : Nat} (c : Nat) (hs : List (Nat × Nat)) (ks : List Nat) (k : WPr P ops Q n (i + c) g own (keepS ks (endB ops hs i own sl (trB P ops n hs c i own sl)).2))
    (h1 : ∀ w, chkB P ops n hs w i own sl (trB P ops n hs c i own sl) = (trB P ops n hs c i own sl).map (fun v => some (v, w)) := by intro w; kernel_rfl)
    (h2 : (idsB ops hs i own sl (trB P ops n hs c i own sl)).map Prod.fst = (idsB ops hs i own sl (trB P ops n hs c i own sl)).map Prod.snd := by kernel_rfl)
    (h3 : hasS ks (endB ops hs i own sl (trB P ops n hs c i own sl)).2 = true := by kernel_rfl)
    (h4 : (endB ops hs i own sl (trB P ops n hs c i own sl)).1 = own := by kernel_rfl) : WPr P ops Q n i g own sl := xB c hs _ k h1 h2 (keep_ok h3) h4
theorem xbo {i : Nat} (c : Nat) (hs : List (Nat × Nat)) (own' : Own) (ks : List Nat) (k : WPr P ops Q n (i + c) g own' (keepS ks (endB ops hs i own sl (trB P ops n hs c i own sl)).2))
    (h1 : ∀ w, chkB P ops n hs w i own sl (trB P ops n hs c i own sl) = (trB P ops n hs c i own sl).map (fun v => some (v, w)) := by intro w; kernel_rfl)
    (h2 : (idsB ops hs i own sl (trB P ops n hs c i own sl)).map Prod.fst = (idsB ops hs i own sl (trB P ops n hs c i own sl)).map Prod.snd := by kernel_rfl)
    (h3 : hasS ks (endB ops hs i own sl (trB P ops n hs c i own sl)).2 = true := by kernel_rfl)
    (h4 : (endB ops hs i own sl (trB P ops n hs c i own sl)).1 = own' := by kernel_rfl) : WPr P ops Q n i g own sl := xBo c hs own' _ k h1 h2 (keep_ok h3) h4
variable {lds fin : List Nat} {p : Psi} {K : Own}
theorem xt {fuel : Nat} {listed : List Bool} (fuel' : Nat) (is : List Nat) (hs : List (Nat × Nat)) (m : List (Option Nat)) (ks : List Nat) (R : RegOk P ops Q lds fin) (hle : p.le g.r) (k : WPa P ops Q lds fin p K fuel' (setAll listed is) n g own (keepS ks (endT ops is sl (trT P ops n hs K is sl))))
    (hK : pickP m own = K := by kernel_rfl) (hf : fuel = fuel' + is.length := by kernel_rfl)
    (h1 : ∀ w, chkT P ops n hs K w is sl (trT P ops n hs K is sl) = (trT P ops n hs K is sl).map (fun v => some (v, w)) := by intro w; kernel_rfl)
    (h2 : (idsT ops hs K is sl (trT P ops n hs K is sl)).map Prod.fst = (idsT ops hs K is sl (trT P ops n hs K is sl)).map Prod.snd := by kernel_rfl)
    (h3 : hasS ks (endT ops is sl (trT P ops n hs K is sl)) = true := by kernel_rfl)
    (h4 : readsT ops lds hs is listed = true := by kernel_rfl) : WPa P ops Q lds fin p K fuel listed n g own sl := xT fuel' is hs m _ R hle k hK hf h1 h2 (keep_ok h3) h4
end
end Go.Proofs.YtnidomdebhekiaaGreat
