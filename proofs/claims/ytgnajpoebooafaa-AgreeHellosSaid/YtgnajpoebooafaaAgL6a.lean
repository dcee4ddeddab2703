/-
AgreeHellos: the law's helpers own and SameHeard, and what GetHello makes of PutHello's bytes. Conditions: each lemma's own.
-/
import Derived.Test.YtgnajpoebooafaaAgGh2
import Derived.Test.YtgnajpoebooafaaAgAwake
namespace Go.Proofs.Ytgnajpoebooafaa
set_option linter.unusedVariables false
set_option linter.unusedSimpArgs false
set_option maxRecDepth 100000
open Go.RowKit
theorem ownh53 (ro st ba hv : Int) (A : Option Addr) (n c : Nat) (w : World) :
    Calls Try.prog 27 #[.agg #[.int .u8 ro, .int .i64 st, .int .i64 ba, .int .i64 hv, .slice A n c]] w fun e w' => e = .returned (.agg #[.int .u8 ro, .int .i64 st, .int .i64 ba, .int .i64 hv, .slice A n c]) ∧ Below w.heap.size w w' := by
  go_enter Try.func27, Try.ntmps27
  go_wp2
  go_returns
  exact ⟨rfl, by go_grown⟩
def sameH (ro st ba hv ro' st' ba' hv' : Int) (l l' : List UInt8) : Bool := decide (ro = ro' ∧ st = st' ∧ ba = ba' ∧ hv = hv' ∧ l = l')
theorem sameH_refl (ro st ba hv : Int) (l : List UInt8) : sameH ro st ba hv ro st ba hv l l = true := by simp [sameH]
set_option maxHeartbeats 1000000 in
theorem sameheard53 (ro st ba hv ro' st' ba' hv' : Int) (A A' : Option Addr) (n c n' c' : Nat) (l l' : List UInt8) (w : World) (hr : Reads w w.heap.size 1 A n (bvs l)) (hr' : Reads w w.heap.size 1 A' n' (bvs l')) :
    Calls Try.prog 29 #[.agg #[.int .u8 ro, .int .i64 st, .int .i64 ba, .int .i64 hv, .slice A n c], .agg #[.int .u8 ro', .int .i64 st', .int .i64 ba', .int .i64 hv', .slice A' n' c']] w fun e w' => e = .returned (.bool (sameH ro st ba hv ro' st' ba' hv' l l')) ∧ Below w.heap.size w w' := by
  have s1 := fun o1 o2 => run_string (P := Try.prog) (c := c) ((hr.alloc (Nat.le_refl _) o1).alloc (by simp) o2) 22 9 5 Try.underlying22 Try.underlying5 Try.underlying9
  have s2 := fun o1 o2 => run_string (P := Try.prog) (c := c') ((hr'.alloc (Nat.le_refl _) o1).alloc (by simp) o2) 22 9 5 Try.underlying22 Try.underlying5 Try.underlying9
  clear hr hr'
  have fin : ∀ r : Bool, sameH ro st ba hv ro' st' ba' hv' l l' = r → Ending.returned (.bool r) = .returned (.bool (sameH ro st ba hv ro' st' ba' hv' l l')) := fun r h => by rw [h]
  have F := Lib.hid fin
  clear fin
  go_enter Try.func29, Try.ntmps29
  go_wp2
  all_goals
    go_ret
    refine ⟨F.out _ ?_, by go_grown⟩
    simp_all [sameH, bytes_eq]
    try (rw [Bool.eq_iff_iff]; simp)
theorem phE_ok {ro st ba hv : Int} {n : Nat} (h : phE ro st ba hv n = 0) : phArg ro st ba hv = true ∧ n ≤ 400 := by
  unfold phE at h
  split at h
  · split at h
    · exact ⟨by assumption, by assumption⟩
    · exact absurd h (by decide)
  · exact absurd h (by decide)
theorem cutk {l a b : List UInt8} {k m : Nat} (pre : List UInt8) (h : l = pre ++ (a ++ b)) (hm : pre.length = k) (ha : a.length = m) : (l.drop k).take m = a := by
  subst h
  rw [← hm, List.drop_left, List.take_append_of_le_length (by omega), List.take_of_length_le (by omega)]
theorem hello_round (ro st ba hv : Int) (l : List UInt8) (n n' : Nat) (hro : U8 ro) (hst : I64 st) (hba : I64 ba) (h : phE ro st ba hv n = 0) (hl : l.length = n) (hn : (phD ro st ba hv n l).length = n') :
    ghR (phD ro st ba hv n l) n' = ro ∧ ghS (phD ro st ba hv n l) n' = st ∧ ghB (phD ro st ba hv n l) n' = ba ∧ ghV (phD ro st ba hv n l) n' = hv ∧ ghD (phD ro st ba hv n l) n' = l ∧ ghE (phD ro st ba hv n l) n' = 0 := by
  obtain ⟨ha, h4⟩ := phE_ok h
  obtain ⟨v1, v2, v3, v4, v5, v6⟩ := phArg_yes ha
  have e : phD ro st ba hv n l = helloB ro st ba hv l := by unfold phD; rw [ha, if_pos rfl, if_pos h4]
  rw [e] at hn ⊢
  have hlen : (helloB ro st ba hv l).length = 19 + l.length := by simp [helloB, lowB_length]; omega
  have e0 : at8 (helloB ro st ba hv l) 0 = ro := by
    unfold helloB
    rw [List.append_assoc, List.append_assoc, List.append_assoc]
    exact u8b_toNat hro
  have e1 : hSt (helloB ro st ba hv l) = st := by
    unfold hSt
    rw [cutk (l := helloB ro st ba hv l) (k := 1) (a := lowB st 8) (b := lowB ba 8 ++ lowB hv 2 ++ l) [u8b ro] (by simp [helloB]) rfl (lowB_length _ _)]
    exact numI_lowB8 st hst.1 hst.2
  have e2 : hBa (helloB ro st ba hv l) = ba := by
    unfold hBa
    rw [cutk (l := helloB ro st ba hv l) (k := 9) (a := lowB ba 8) (b := lowB hv 2 ++ l) ([u8b ro] ++ lowB st 8) (by simp [helloB]) (by simp [lowB_length]) (lowB_length _ _)]
    exact numI_lowB8 ba hba.1 hba.2
  have e3 : hHv (helloB ro st ba hv l) = hv := by
    unfold hHv
    rw [cutk (l := helloB ro st ba hv l) (k := 17) (a := lowB hv 2) (b := l) ([u8b ro] ++ lowB st 8 ++ lowB ba 8) (by simp [helloB]) (by simp [lowB_length]) (lowB_length _ _)]
    exact numI_lowB2 hv (by omega) (by omega)
  have e4 : (helloB ro st ba hv l).drop 19 = l := by
    have hq : ([u8b ro] ++ lowB st 8 ++ lowB ba 8 ++ lowB hv 2).length = 19 := by simp [lowB_length]
    unfold helloB
    rw [List.drop_append, List.drop_of_length_le (by omega), hq, Nat.sub_self, List.drop_zero, List.nil_append]
  have hg : hOk (helloB ro st ba hv l) n' = true := by
    unfold hOk
    rw [e0, e1, e2, e3, ha, decide_eq_true (show 19 ≤ n' ∧ n' ≤ 419 by omega)]; rfl
  rw [ghR_yes hg, ghS_yes hg, ghB_yes hg, ghV_yes hg, ghD_yes hg, ghE_yes hg, e0, e1, e2, e3, e4]
  exact ⟨rfl, rfl, rfl, rfl, rfl, rfl⟩
theorem phD_le (ro st ba hv : Int) (n : Nat) (l : List UInt8) : (phD ro st ba hv n l).length ≤ 19 + l.length := by
  unfold phD
  split
  · split
    · simp [helloB, lowB_length]; omega
    · simp
  · simp
end Go.Proofs.Ytgnajpoebooafaa
