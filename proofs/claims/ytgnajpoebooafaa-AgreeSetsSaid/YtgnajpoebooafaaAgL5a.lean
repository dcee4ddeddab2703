/-
AgreeSets: the law's helpers OwnSet and SameSet, and what GetSet makes of PutSet's bytes. Conditions: each lemma's own.
-/
import Derived.Test.YtgnajpoebooafaaAgGs2
import Derived.Test.YtgnajpoebooafaaAgAwake
namespace Go.Proofs.Ytgnajpoebooafaa
set_option linter.unusedVariables false
set_option linter.unusedSimpArgs false
set_option maxRecDepth 100000
open Go.RowKit
theorem ownset53 (st cy : Int) (fr : Bool) (A : Option Addr) (n c : Nat) (w : World) :
    Calls Try.prog 33 #[.agg #[.int .i64 st, .int .i64 cy, .bool fr, .slice A n c]] w fun e w' => e = .returned (.agg #[.int .i64 st, .int .i64 cy, .bool fr, .slice A n c]) ∧ Below w.heap.size w w' := by
  go_enter Try.func33, Try.ntmps33
  go_wp2
  go_returns
  exact ⟨rfl, by go_grown⟩
def sameS (st cy : Int) (fr : Bool) (st' cy' : Int) (fr' : Bool) (l l' : List UInt8) : Bool := decide (st = st' ∧ cy = cy' ∧ fr = fr' ∧ l = l')
theorem sameS_refl (st cy : Int) (fr : Bool) (l : List UInt8) : sameS st cy fr st cy fr l l = true := by simp [sameS]
set_option maxHeartbeats 1000000 in
theorem sameset53 (st cy : Int) (fr : Bool) (st' cy' : Int) (fr' : Bool) (A A' : Option Addr) (n c n' c' : Nat) (l l' : List UInt8) (w : World) (hr : Reads w w.heap.size 1 A n (bvs l)) (hr' : Reads w w.heap.size 1 A' n' (bvs l')) :
    Calls Try.prog 35 #[.agg #[.int .i64 st, .int .i64 cy, .bool fr, .slice A n c], .agg #[.int .i64 st', .int .i64 cy', .bool fr', .slice A' n' c']] w fun e w' => e = .returned (.bool (sameS st cy fr st' cy' fr' l l')) ∧ Below w.heap.size w w' := by
  have s1 := fun o1 o2 => run_string (P := Try.prog) (c := c) ((hr.alloc (Nat.le_refl _) o1).alloc (by simp) o2) 22 9 5 Try.underlying22 Try.underlying5 Try.underlying9
  have s2 := fun o1 o2 => run_string (P := Try.prog) (c := c') ((hr'.alloc (Nat.le_refl _) o1).alloc (by simp) o2) 22 9 5 Try.underlying22 Try.underlying5 Try.underlying9
  clear hr hr'
  have fin : ∀ r : Bool, sameS st cy fr st' cy' fr' l l' = r → Ending.returned (.bool r) = .returned (.bool (sameS st cy fr st' cy' fr' l l')) := fun r h => by rw [h]
  have F := Lib.hid fin
  clear fin
  go_enter Try.func35, Try.ntmps35
  go_wp2
  all_goals
    go_ret
    refine ⟨F.out _ ?_, by go_grown⟩
    simp_all [sameS, bytes_eq]
    try (rw [Bool.eq_iff_iff]; simp)
theorem set_round (st cy : Int) (fr : Bool) (l : List UInt8) (n : Nat) (hst : I64 st) (h : psE st l = 0) (hn : (psD st fr l).length = n) :
    gsS (psD st fr l) n = st ∧ gsC (psD st fr l) n cy = cy ∧ gsF (psD st fr l) n = fr ∧ gsD (psD st fr l) n = l ∧ gsE (psD st fr l) n = 0 := by
  have hok : psOk st l = true := by
    cases hv : psOk st l with
    | true => rfl
    | false =>
      rw [gs_psE, hv] at h
      simp only [Bool.false_eq_true, if_false] at h
      split at h <;> exact absurd h (by decide)
  have e : psD st fr l = setB st fr l := by unfold psD; rw [hok, if_pos rfl]
  rw [e] at hn ⊢
  have et : (setB st fr l).take 8 = lowB st 8 := by
    unfold setB
    rw [List.append_assoc, List.take_append_of_le_length (by rw [lowB_length]; omega), List.take_of_length_le (by rw [lowB_length]; omega)]
  have ed : (setB st fr l).drop 9 = l := by
    unfold setB
    have hl : (lowB st 8 ++ [freshB fr]).length = 9 := by simp [lowB_length]
    rw [List.drop_append, List.drop_of_length_le (by omega), hl, Nat.sub_self, List.drop_zero, List.nil_append]
  have e8 : at8 (setB st fr l) 8 = (freshB fr).toNat := by
    unfold at8 setB
    simp only [List.getD, List.append_assoc]
    rw [List.getElem?_append_right (by rw [lowB_length]; omega), lowB_length]
    rfl
  have hlen : (setB st fr l).length = 9 + l.length := by simp [setB, lowB_length]; omega
  have hI : numI (lowB st 8) = st := numI_lowB8 st hst.1 hst.2
  have hle : at8 (setB st fr l) 8 ≤ 1 := by rw [e8]; cases fr <;> decide
  have hf : (at8 (setB st fr l) 8 == 1) = fr := by rw [e8]; cases fr <;> decide
  have hg : gsOk (setB st fr l) n = true := by
    unfold gsOk
    rw [et, ed, hI, hok, decide_eq_true hle, decide_eq_true (show 9 ≤ n by omega)]; rfl
  rw [gsS_yes hg, gsC_yes cy hg, gsF_yes hg, gsD_yes hg, gsE_yes hg, et, ed, hI, hf]
  exact ⟨rfl, rfl, rfl, rfl, rfl⟩
end Go.Proofs.Ytgnajpoebooafaa
