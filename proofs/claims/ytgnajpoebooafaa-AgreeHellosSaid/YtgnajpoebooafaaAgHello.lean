/-
The payload of a hello: the contracts of both PutHello. Conditions: the numbers lie in their types; lengths of at most 1000000.
-/
import Derived.Test.YtgnajpoebooafaaAgRes
namespace Go.Proofs.Ytgnajpoebooafaa
set_option linter.unusedVariables false
set_option linter.unusedSimpArgs false
set_option maxRecDepth 100000
open Go.RowKit
def helloB (ro st ba hv : Int) (l : List UInt8) : List UInt8 := [u8b ro] ++ lowB st 8 ++ lowB ba 8 ++ lowB hv 2 ++ l
def phArg (ro st ba hv : Int) : Bool := decide (1 ≤ ro ∧ ro ≤ 3 ∧ 0 ≤ st ∧ 0 ≤ ba ∧ 0 ≤ hv ∧ hv ≤ 65535)
theorem phArg_yes {ro st ba hv : Int} (h : phArg ro st ba hv = true) : 1 ≤ ro ∧ ro ≤ 3 ∧ 0 ≤ st ∧ 0 ≤ ba ∧ 0 ≤ hv ∧ hv ≤ 65535 := by simpa [phArg] using h
theorem phArg_no {ro st ba hv : Int} (h : phArg ro st ba hv = false) : ¬ (1 ≤ ro ∧ ro ≤ 3 ∧ 0 ≤ st ∧ 0 ≤ ba ∧ 0 ≤ hv ∧ hv ≤ 65535) := by simpa [phArg] using h
def phE (ro st ba hv : Int) (n : Nat) : Int := if phArg ro st ba hv then (if n ≤ 400 then 0 else 3) else 1
def phD (ro st ba hv : Int) (n : Nat) (l : List UInt8) : List UInt8 := if phArg ro st ba hv then (if n ≤ 400 then helloB ro st ba hv l else []) else []
def PutHelloGives (w : World) (ro st ba hv : Int) (n : Nat) (l : List UInt8) (e : Ending) (w' : World) : Prop :=
  ∃ A' n' c', e = .returned (.tuple #[.slice A' n' c', .int .i64 (phE ro st ba hv n)]) ∧ Reads w' w'.heap.size 1 A' n' (bvs (phD ro st ba hv n l)) ∧ n' ≤ c' ∧ n' ≤ 1000 ∧ Below w.heap.size w w'
theorem putHello_bad1 {w w' : World} {ro st ba hv : Int} {n : Nat} {l : List UInt8} {e : Ending} (h : phArg ro st ba hv = false) (he : e = .returned (.tuple #[.slice none 0 0, .int .i64 1])) (hb : Below w.heap.size w w') : PutHelloGives w ro st ba hv n l e w' := by
  unfold PutHelloGives phE phD
  rw [h]
  exact ⟨none, 0, 0, he, Reads.none_, by omega, by omega, hb⟩
theorem putHello_bad2 {w w' : World} {ro st ba hv : Int} {n : Nat} {l : List UInt8} {e : Ending} (h : phArg ro st ba hv = true) (hn : ¬ n ≤ 400) (he : e = .returned (.tuple #[.slice none 0 0, .int .i64 3])) (hb : Below w.heap.size w w') : PutHelloGives w ro st ba hv n l e w' := by
  unfold PutHelloGives phE phD
  rw [h, if_pos rfl, if_neg hn, if_pos rfl, if_neg hn]
  exact ⟨none, 0, 0, he, Reads.none_, by omega, by omega, hb⟩
theorem putHello_ok {w w' : World} {ro st ba hv : Int} {n : Nat} {l : List UInt8} {e : Ending} {A : Option Addr} {m c : Nat} (h : phArg ro st ba hv = true) (hn : n ≤ 400) (he : e = .returned (.tuple #[.slice A m c, .int .i64 0])) (hr : Reads w' w'.heap.size 1 A m (bvs (helloB ro st ba hv l))) (hc : m ≤ c) (hm : m ≤ 1000) (hb : Below w.heap.size w w') : PutHelloGives w ro st ba hv n l e w' := by
  unfold PutHelloGives phE phD
  rw [h, if_pos rfl, if_pos hn, if_pos rfl, if_pos hn]
  exact ⟨A, m, c, he, hr, hc, hm, hb⟩
theorem bvs1 {a : Int} (ha : U8 a) : bvs [u8b a] = [.int .u8 a] := by simp [bvs, u8b_toNat ha]
theorem low2x (x : Int) (w : World) : Calls Try.prog 54 #[.int .i64 x, .int .i64 2] w fun e w' => ∃ A' c', e = .returned (.slice A' 2 c') ∧ w'.ownsRow w.heap.size 5 1 (.slice A' 2 c') 2 (bvs (lowB x 2)) ∧ Below w.heap.size w w' := low_any x 2 w (by omega)
theorem own_one (w : World) (e : TypeId) (v : Value) : (w.alloc (.cells #[v] e)).ownsRow w.heap.size e 1 (.slice (some ⟨w.heap.size, 0, none⟩) 1 1) 1 [v] := World.ownsRow_lit w #[v] 1 (Nat.le_refl _) (by decide) (by simp)
theorem own_al' {w0 : World} {X : Obj} (ro : Int) (hro : U8 ro) : ((w0.alloc X).alloc (.cells #[.int .u8 ro] 5)).ownsRow (w0.heap.size + 1) 5 1 (.slice (some ⟨w0.heap.size + 1, 0, none⟩) 1 1) 1 (bvs [u8b ro]) := by
  have h := own_one (w0.alloc X) 5 (.int .u8 ro)
  rw [World.size_alloc] at h
  rw [bvs1 hro]
  exact h
set_option maxHeartbeats 2000000 in
theorem puthello1_any (ro st ba hv : Int) (A : Option Addr) (n c : Nat) (l : List UInt8) (w : World) (hro : U8 ro) (hst : I64 st) (hba : I64 ba) (hhv : I64 hv) (hn : n ≤ 1000000) (hc : n ≤ c) (hr : Reads w w.heap.size 1 A n (bvs l)) :
    Calls Try.prog 25 #[.agg #[.int .u8 ro, .int .i64 st, .int .i64 ba, .int .i64 hv, .slice A n c]] w (PutHelloGives w ro st ba hv n l) := by
  have HR := Lib.hid hr
  clear hr
  cases hpa : phArg ro st ba hv with
  | false =>
    have hv' := phArg_no hpa
    have HA := Lib.hid hpa
    have HV := Lib.hid hv'
    clear hpa hv'
    unfold U8 at hro
    go_enter Try.func25, Try.ntmps25
    go_wp2
    all_goals first
      | (exfalso; have := HV.out; omega)
      | (go_ret2; exact putHello_bad1 HA.out rfl (Ba (Below.refl _ _)))
  | true =>
    obtain ⟨v1, v2, v3, v4, v5, v6⟩ := phArg_yes hpa
    have HA := Lib.hid hpa
    clear hpa
    by_cases h4 : n ≤ 400
    · have kb : ∀ o, (w.alloc (.cells #[.int .u8 ro, .int .i64 st, .int .i64 ba, .int .i64 hv, .slice A n c] 50)).cell? ⟨w.heap.size, o, none⟩ = (#[.int .u8 ro, .int .i64 st, .int .i64 ba, .int .i64 hv, .slice A n c] : Array Value)[o]? := (Blk.new w 50 #[.int .u8 ro, .int .i64 st, .int .i64 ba, .int .i64 hv, .slice A n c]).cell
      go_enter Try.func25, Try.ntmps25
      go_wp2_with fail
      refine (put8 (w.heap.size + 1) _ 1 _ [u8b ro] _ _ hst (by omega) (by simp) (own_al' ro hro)).mono ?_
      rintro e w1 ⟨A1, c1, rfl, ho1, hb1, hg1⟩
      have k1 := rowB ((Below.refl (w.heap.size + 1) _).alloc (by simp) _ |>.trans hb1) kb (by omega)
      have hB1 : Below w.heap.size w w1 := (Ba (Ba (Below.refl _ _))).trans (hb1.mono (by omega))
      have hz1 : w.heap.size + 1 ≤ w1.heap.size := by have := hb1.size; simp at this; omega
      have HO1 := Lib.hid ho1
      have HB1 := Lib.hid hB1
      clear ho1 hb1 hg1 hB1 kb
      go_upto_region 6 with fail
      have hd : Below (w.heap.size + 1) w1 w1.drew := (Below.refl _ _).drew
      go_region_held3 (fun w' => (∀ o, w'.cell? ⟨w.heap.size, o, none⟩ = (#[.int .u8 ro, .int .i64 st, .int .i64 ba, .int .i64 hv, .slice A n c] : Array Value)[o]?) ∧ Below (w.heap.size + 1) w1 w')
        (first
          | exact ⟨k1, hd⟩
          | (rcases ‹_ ∧ Below _ _ _› with ⟨s0, sB⟩; exact ⟨rowB hb3 s0 (by omega), sB.trans hb3⟩)
          | (rcases ‹_ ∧ Below _ _ _› with ⟨s0, sB⟩; exact ⟨rowB hb2 s0 (by omega), sB.trans hb2⟩))
        (first
          | (go_at_call 53; rcases ‹_ ∧ Below _ _ _› with ⟨s0, sB⟩; first
            | ((with_reducible refine (put8 (w.heap.size + 1) _ _ _ _ _ _ hba (by omega) (Nat.le_trans hz1 sB.size) (own_dr HO1.out)).mono ?_); rintro e w2 ⟨A2, c2, rfl, ho2, hb2, hg2⟩; have HO2 := Lib.hid ho2; clear ho2 hg2)
            | ((with_reducible refine (put2 (w.heap.size + 1) _ _ _ _ _ _ hhv (by omega) (Nat.le_trans hz1 sB.size) HO2.out).mono ?_); rintro e w3 ⟨A3, c3, rfl, ho3, hb3⟩; have HO3 := Lib.hid ho3; clear ho3))
          | fail)
      obtain ⟨k3, sB3⟩ := ‹_ ∧ Below _ _ w3›
      have hz3 : w.heap.size + 1 ≤ w3.heap.size := Nat.le_trans hz1 sB3.size
      have hB3 : Below w.heap.size w w3 := HB1.out.trans (sB3.mono (by omega))
      go_wp2_with (at_builtin; refine stopHere ?_)
      refine goOn ?_
      refine appB rfl (.tmp 55) (.tmp 57) rfl rfl HO3.out rfl (HR.out.below hB3) (bvs_one _) (by omega) hz3 ?_
      intro A4 c4 w4 ho4 hb4 hg4 hat4
      rw [← bvs_append] at ho4
      have HO4 := Lib.hid ho4
      have hB4 : Below w.heap.size w w4 := hB3.trans (hb4.mono (by omega))
      clear ho4 hb4 hg4 hat4 k3 sB3
      go_wp2
      go_ret2
      exact putHello_ok HA.out h4 rfl (Reads.of_own HO4.out) (own_le HO4.out) (by omega) hB4
    · have H4 := Lib.hid h4
      have h5 : 400 < n := by omega
      clear h4
      go_enter Try.func25, Try.ntmps25
      go_wp2
      go_ret2
      exact putHello_bad2 HA.out H4.out rfl (Ba (Below.refl _ _))
set_option maxHeartbeats 2000000 in
theorem puthello2_any (ro st ba hv : Int) (A : Option Addr) (n c : Nat) (l : List UInt8) (w : World) (hro : U8 ro) (hst : I64 st) (hba : I64 ba) (hhv : I64 hv) (hn : n ≤ 1000000) (hc : n ≤ c) (hr : Reads w w.heap.size 1 A n (bvs l)) :
    Calls Try.prog 26 #[.agg #[.int .u8 ro, .int .i64 st, .int .i64 ba, .int .i64 hv, .slice A n c]] w (PutHelloGives w ro st ba hv n l) := by
  have HR := Lib.hid hr
  clear hr
  cases hpa : phArg ro st ba hv with
  | false =>
    have hv' := phArg_no hpa
    have HA := Lib.hid hpa
    have HV := Lib.hid hv'
    clear hpa hv'
    unfold U8 at hro
    go_enter Try.func26, Try.ntmps26
    go_wp2
    all_goals first
      | (exfalso; have := HV.out; omega)
      | (go_ret2; exact putHello_bad1 HA.out rfl (Ba (Below.refl _ _)))
  | true =>
    obtain ⟨v1, v2, v3, v4, v5, v6⟩ := phArg_yes hpa
    have HA := Lib.hid hpa
    clear hpa
    by_cases h4 : n ≤ 400
    · have kb : ∀ o, (w.alloc (.cells #[.int .u8 ro, .int .i64 st, .int .i64 ba, .int .i64 hv, .slice A n c] 55)).cell? ⟨w.heap.size, o, none⟩ = (#[.int .u8 ro, .int .i64 st, .int .i64 ba, .int .i64 hv, .slice A n c] : Array Value)[o]? := (Blk.new w 55 #[.int .u8 ro, .int .i64 st, .int .i64 ba, .int .i64 hv, .slice A n c]).cell
      go_enter Try.func26, Try.ntmps26
      go_upto_region 6 with fail
      have hO0 := own_al' (w0 := w) (X := .cells #[.int .u8 ro, .int .i64 st, .int .i64 ba, .int .i64 hv, .slice A n c] 55) ro hro
      have k0 := rowGo (Ba (Below.refl _ _) : Below (w.alloc (.cells #[.int .u8 ro, .int .i64 st, .int .i64 ba, .int .i64 hv, .slice A n c] 55)).heap.size (w.alloc (.cells #[.int .u8 ro, .int .i64 st, .int .i64 ba, .int .i64 hv, .slice A n c] 55)) ((w.alloc (.cells #[.int .u8 ro, .int .i64 st, .int .i64 ba, .int .i64 hv, .slice A n c] 55)).alloc (.cells #[.int .u8 ro] 5))) kb rfl
      have hB0 : Below w.heap.size w ((w.alloc (.cells #[.int .u8 ro, .int .i64 st, .int .i64 ba, .int .i64 hv, .slice A n c] 55)).alloc (.cells #[.int .u8 ro] 5)) := Ba (Ba (Below.refl _ _))
      have hz0 : w.heap.size + 1 < ((w.alloc (.cells #[.int .u8 ro, .int .i64 st, .int .i64 ba, .int .i64 hv, .slice A n c] 55)).alloc (.cells #[.int .u8 ro] 5)).heap.size := by simp
      generalize (w.alloc (.cells #[.int .u8 ro, .int .i64 st, .int .i64 ba, .int .i64 hv, .slice A n c] 55)).alloc (.cells #[.int .u8 ro] 5) = w0 at *
      have HO0 := Lib.hid hO0
      clear hO0 kb
      go_wp2_with fail
      refine (low8 _ _).mono ?_
      rintro e wL0 ⟨AL0, cL0, rfl, hoL0, hbL0⟩
      have HC0 := Lib.hid (own_go HO0.out hbL0)
      have HL0 := Lib.hid (Reads.of_own hoL0)
      have kL0 := rowGo hbL0 k0 rfl
      have hBL0 := Bt hB0 hbL0
      have hzL0 : w.heap.size + 1 < wL0.heap.size := Nat.lt_of_lt_of_le hz0 hbL0.size
      clear hoL0 hbL0 k0 hB0 hz0
      go_wp2_with (at_builtin; refine stopHere ?_)
      refine goOn ?_
      refine appB rfl (.tmp 43) (.tmp 46) rfl rfl HC0.out rfl HL0.out (bvs_one _) (by omega) (by omega) ?_
      intro A1 c1 w1 ho1 hb1 hg1 hat1
      rw [← bvs_append] at ho1
      have HO1 := Lib.hid ho1
      have k1 := rowB hb1 kL0 (by omega)
      have hB1 : Below w.heap.size w w1 := hBL0.trans (hb1.mono (by omega))
      have hz1 : w.heap.size + 1 < w1.heap.size := Nat.lt_of_lt_of_le hzL0 hb1.size
      clear ho1 hb1 hg1 hat1 kL0 hBL0 hzL0
      go_wp2_with fail
      refine (low8 _ _).mono ?_
      rintro e wL1 ⟨AL1, cL1, rfl, hoL1, hbL1⟩
      have HC1 := Lib.hid (own_go HO1.out hbL1)
      have HL1 := Lib.hid (Reads.of_own hoL1)
      have kL1 := rowGo hbL1 k1 rfl
      have hBL1 := Bt hB1 hbL1
      have hzL1 : w.heap.size + 1 < wL1.heap.size := Nat.lt_of_lt_of_le hz1 hbL1.size
      clear hoL1 hbL1 k1 hB1 hz1
      go_wp2_with (at_builtin; refine stopHere ?_)
      refine goOn ?_
      refine appB rfl (.tmp 48) (.tmp 52) rfl rfl HC1.out rfl HL1.out (bvs_one _) (by omega) (by omega) ?_
      intro A2 c2 w2 ho2 hb2 hg2 hat2
      rw [← bvs_append] at ho2
      have HO2 := Lib.hid ho2
      have k2 := rowB hb2 kL1 (by omega)
      have hB2 : Below w.heap.size w w2 := hBL1.trans (hb2.mono (by omega))
      have hz2 : w.heap.size + 1 < w2.heap.size := Nat.lt_of_lt_of_le hzL1 hb2.size
      clear ho2 hb2 hg2 hat2 kL1 hBL1 hzL1
      go_wp2_with fail
      refine (low2x _ _).mono ?_
      rintro e wL2 ⟨AL2, cL2, rfl, hoL2, hbL2⟩
      have HC2 := Lib.hid (own_go HO2.out hbL2)
      have HL2 := Lib.hid (Reads.of_own hoL2)
      have kL2 := rowGo hbL2 k2 rfl
      have hBL2 := Bt hB2 hbL2
      have hzL2 : w.heap.size + 1 < wL2.heap.size := Nat.lt_of_lt_of_le hz2 hbL2.size
      clear hoL2 hbL2 k2 hB2 hz2
      go_wp2_with (at_builtin; refine stopHere ?_)
      refine goOn ?_
      refine appB rfl (.tmp 54) (.tmp 58) rfl rfl HC2.out rfl HL2.out (bvs_one _) (by omega) (by omega) ?_
      intro A3 c3 w3 ho3 hb3 hg3 hat3
      rw [← bvs_append] at ho3
      have HO3 := Lib.hid ho3
      have k3 := rowB hb3 kL2 (by omega)
      have hB3 : Below w.heap.size w w3 := hBL2.trans (hb3.mono (by omega))
      have hz3 : w.heap.size + 1 < w3.heap.size := Nat.lt_of_lt_of_le hzL2 hb3.size
      clear ho3 hb3 hg3 hat3 kL2 hBL2 hzL2
      go_wp2_with (at_builtin; refine stopHere ?_)
      refine goOn ?_
      refine appB rfl (.tmp 60) (.tmp 62) rfl rfl HO3.out rfl (HR.out.below hB3) (bvs_one _) (by omega) (by omega) ?_
      intro A4 c4 w4 ho4 hb4 hg4 hat4
      rw [← bvs_append] at ho4
      have HO4 := Lib.hid ho4
      have hB4 : Below w.heap.size w w4 := hB3.trans (hb4.mono (by omega))
      clear ho4 hb4 hg4 hat4 k3
      go_wp2
      go_ret2
      exact putHello_ok HA.out h4 rfl (Reads.of_own HO4.out) (own_le HO4.out) (by omega) hB4
    · have H4 := Lib.hid h4
      have h5 : 400 < n := by omega
      clear h4
      go_enter Try.func26, Try.ntmps26
      go_wp2
      go_ret2
      exact putHello_bad2 HA.out H4.out rfl (Ba (Below.refl _ _))
end Go.Proofs.Ytgnajpoebooafaa
