/-
The walk of AgreePacks. Conditions: none.
-/
import Derived.Test.YtgnajpoebooafaaAgAwake
import Derived.Test.YtgnajpoebooafaaFrame
namespace Go.Proofs.Ytgnajpoebooafaa
set_option linter.unusedVariables false
set_option linter.unusedSimpArgs false
set_option maxRecDepth 100000
open Go.RowKit
set_option maxHeartbeats 2000000 in
theorem packs_walk (A1 : Option Addr) (n1 c1 : Nat) (l1 : List UInt8) (A2 : Option Addr) (n2 c2 : Nat) (l2 : List UInt8) (is : Int) (w : World) (hin1 : BIn w A1 n1 c1 l1) (hin2 : BIn w A2 n2 c2 l2) (his : U8 is) :
    Calls Try.prog 3 #[.slice A1 n1 c1, .slice A2 n2 c2, .int .u8 is] w fun e w' => e = .returned (.bool true) ∧ Below w.heap.size w w' := by
  unfold BIn maxLen at hin1 hin2
  obtain ⟨hr1, hnk1, hk1⟩ := hin1
  obtain ⟨hr2, hnk2, hk2⟩ := hin2
  have HR1 := Lib.hid hr1
  have HR2 := Lib.hid hr2
  clear hr1 hr2
  obtain ⟨ia, hia⟩ : ∃ ia, ia = (bits .and .u8 is 1 == 1) := ⟨_, rfl⟩
  obtain ⟨ib, hib⟩ : ∃ ib, ib = (bits .and .u8 is 2 == 2) := ⟨_, rfl⟩
  have hia' := hia.symm
  have hib' := hib.symm
  clear hia hib
  go_enter Try.func3, Try.ntmps3
  go_upto_region 5 with (first
    | (go_at_call 13; refine (awake53 _).mono ?_; rintro e w1 ⟨rfl, hb1⟩)
    | (go_at_call 14; refine (cut53 _ _ _ _ _ (by omega) (by omega) (by omega) (by omega)).mono ?_; rintro e w2 ⟨rfl, rfl⟩))
  obtain ⟨m1, hm1⟩ : ∃ m, m = min n1 404 := ⟨_, rfl⟩
  obtain ⟨m2, hm2⟩ : ∃ m, m = min n2 404 := ⟨_, rfl⟩
  rw [← hm1, ← hm2]
  have hB1 : Below w.heap.size w w1 := hb1
  have hR1 : Reads w1 w1.heap.size 1 A1 m1 (bvs (l1.take m1)) := by
    have := (HR1.out.go hB1).take (k := m1) (by omega)
    rw [bvs_take]; simpa using this
  have hR2 : Reads w1 w1.heap.size 1 A2 m2 (bvs (l2.take m2)) := by
    have := (HR2.out.go hB1).take (k := m2) (by omega)
    rw [bvs_take]; simpa using this
  have hml1 : (l1.take m1).length = m1 := by have := hR1.1; rw [bvs_length] at this; omega
  have hml2 : (l2.take m2).length = m2 := by have := hR2.1; rw [bvs_length] at this; omega
  generalize l1.take m1 = L1 at *
  generalize l2.take m2 = L2 at *
  have hmc1 : m1 ≤ c1 := by omega
  have h41 : m1 ≤ 404 := by omega
  have h42 : m2 ≤ 404 := by omega
  have R1 := Lib.hid hR1
  have R2 := Lib.hid hR2
  have HL1 := Lib.hid hml1
  have HL2 := Lib.hid hml2
  have HB1 := Lib.hid hB1
  clear hR1 hR2 hml1 hml2 hB1 hb1 hm1 hm2 hia' hib'
  go_upto_if 67 with (first
    | (go_at_call 15; refine (pack1_any _ _ _ _ _ _ _ _ _ _ _ (by omega) (by omega) R1.out R2.out).mono ?_; rintro e w4 ⟨A4, n4, c4, rfl, hr4, hc4, hn4, hb4⟩; have HR4 := Lib.hid hr4; clear hr4)
    | (go_at_call 16; refine (pack2_any _ _ _ _ _ _ _ _ _ _ _ (by omega) (by omega) (R1.out.go hb4) (R2.out.go hb4)).mono ?_; rintro e w6 ⟨A6, n6, c6, rfl, hr6, hc6, hn6, hb6⟩; have s4 := run_string (P := Try.prog) (c := c4) (HR4.out.go hb6) 22 9 5 Try.underlying22 Try.underlying5 Try.underlying9; have s6 := run_string (P := Try.prog) (c := c6) hr6 22 9 5 Try.underlying22 Try.underlying5 Try.underlying9; clear hr6))
  have hB6 := Bt hb4 hb6
  have R6 := Lib.hid (HR4.out.go hb6)
  have HB6 := Lib.hid hB6
  clear HR4 hb4 hb6 hB6 s4 s6
  go_cut [] (fun wx => Below w6.heap.size w6 wx)
  case first =>
    by_cases hv : packE L1.length ia L2.length ib = 0
    · have he : (packE L1.length ia L2.length ib == 0) = true := by simpa using hv
      obtain ⟨d1, d2, d3, d4, d5⟩ := un_pack L1 ia L2 ib (packE_ok hv)
      have d6 : (unE (packD L1 ia L2 ib) != 0) = false := by rw [d5]; rfl
      have D1 := Lib.hid d1
      have D3 := Lib.hid d3
      clear hv d1 d3 d5
      go_wp2_with fail
      refine (unpack1_any _ _ _ _ _ (by omega) hc4 R6.out).mono ?_
      rintro e w7 ⟨A7, n7, c7, A8, n8, c8, rfl, hr7, hr8, hb7⟩
      rw [D1.out] at hr7
      rw [D3.out] at hr8
      have s7 := run_string (P := Try.prog) (c := c7) hr7 22 9 5 Try.underlying22 Try.underlying5 Try.underlying9
      have s8 := run_string (P := Try.prog) (c := c8) hr8 22 9 5 Try.underlying22 Try.underlying5 Try.underlying9
      have s1 := run_string (P := Try.prog) (c := c1) (R1.out.go (Bt HB6.out hb7)) 22 9 5 Try.underlying22 Try.underlying5 Try.underlying9
      have s2 := run_string (P := Try.prog) (c := c2) (R2.out.go (Bt HB6.out hb7)) 22 9 5 Try.underlying22 Try.underlying5 Try.underlying9
      have hl7 : (if ia then L1 else []).length = n7 := by have := hr7.1; rw [bvs_length] at this; omega
      have hl8 : (if ib then L2 else []).length = n8 := by have := hr8.1; rw [bvs_length] at this; omega
      clear hr7 hr8
      cases ia <;> cases ib
      all_goals
        simp only [if_true, if_false, Bool.false_eq_true, List.length_nil] at hl7 hl8 s7 s8
        have z7 : (n7 : Int) ≤ 404 := by have := HL1.out; omega
        have HL7 := Lib.hid hl7
        have HL8 := Lib.hid hl8
        clear hl7 hl8
      · obtain rfl : n7 = 0 := HL7.out.symm
        obtain rfl : n8 = 0 := HL8.out.symm
        go_wp2
        go_meet
        exact hb7
      · obtain rfl : n7 = 0 := HL7.out.symm
        go_wp2
        go_meet
        exact hb7
      · obtain rfl : n8 = 0 := HL8.out.symm
        go_wp2
        go_meet
        exact hb7
      · go_wp2
        go_meet
        exact hb7
    · have he : (packE L1.length ia L2.length ib == 0) = false := by simpa using hv
      clear hv
      go_wp2_with fail
      go_meet
      exact Below.refl _ _
  case rest =>
    have HBC := Lib.hid (Bt (Bt HB1.out HB6.out) hcut)
    have RC := Lib.hid (R1.out.go (Bt HB6.out hcut))
    clear hcut
    go_wp2_with (first
      | (go_at_call 17; refine (unpack1_any _ _ _ _ _ (by omega) hmc1 RC.out).mono ?_; rintro e w7 ⟨A7, n7, c7, A8, n8, c8, rfl, hr7, hr8, hb7⟩; have HR7 := Lib.hid hr7; have HR8 := Lib.hid hr8; clear hr7 hr8)
      | (go_at_call 18; refine (unpack2_any _ _ _ _ _ (by omega) hmc1 (RC.out.go hb7)).mono ?_; rintro e w9 ⟨A9, n9, c9, AA, na, ca, rfl, hr9, hra, hb9⟩; have s7 := run_string (P := Try.prog) (c := c7) (HR7.out.go hb9) 22 9 5 Try.underlying22 Try.underlying5 Try.underlying9; have s8 := run_string (P := Try.prog) (c := c8) (HR8.out.go hb9) 22 9 5 Try.underlying22 Try.underlying5 Try.underlying9; have s9 := run_string (P := Try.prog) (c := c9) hr9 22 9 5 Try.underlying22 Try.underlying5 Try.underlying9; have sa := run_string (P := Try.prog) (c := ca) hra 22 9 5 Try.underlying22 Try.underlying5 Try.underlying9; clear hr9 hra))
    go_ret
    exact ⟨ret_bool (by simp), Bt (Bt HBC.out hb7) hb9⟩
end Go.Proofs.Ytgnajpoebooafaa
