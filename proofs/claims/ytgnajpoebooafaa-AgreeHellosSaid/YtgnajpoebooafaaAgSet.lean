/-
The payload of a set: the contracts of both PutSet. Conditions: the numbers lie in their types; lengths of at most 1000000.
-/
import Derived.Test.YtgnajpoebooafaaAgRes
import Derived.Test.YtgnajpoebooafaaAgUn1
namespace Go.Proofs.Ytgnajpoebooafaa
set_option linter.unusedVariables false
set_option linter.unusedSimpArgs false
set_option maxRecDepth 100000
open Go.RowKit
def freshB (fr : Bool) : UInt8 := if fr then 1 else 0
def setB (st : Int) (fr : Bool) (l : List UInt8) : List UInt8 := lowB st 8 ++ [freshB fr] ++ l
def psOk (st : Int) (l : List UInt8) : Bool := decide (0 ≤ st) && unOk l
def psE (st : Int) (l : List UInt8) : Int := if 0 ≤ st then unE l else 1
def psD (st : Int) (fr : Bool) (l : List UInt8) : List UInt8 := if psOk st l then setB st fr l else []
def PutSetGives (w : World) (st : Int) (fr : Bool) (l : List UInt8) (e : Ending) (w' : World) : Prop :=
  ∃ A' n' c', e = .returned (.tuple #[.slice A' n' c', .int .i64 (psE st l)]) ∧ Reads w' w'.heap.size 1 A' n' (bvs (psD st fr l)) ∧ n' ≤ c' ∧ n' ≤ 1000100 ∧ Below w.heap.size w w'
theorem putSet_bad1 {w w' : World} {st : Int} {fr : Bool} {l : List UInt8} {e : Ending} (h : st < 0) (he : e = .returned (.tuple #[.slice none 0 0, .int .i64 1])) (hb : Below w.heap.size w w') : PutSetGives w st fr l e w' :=
  ⟨none, 0, 0, by rw [he, psE, if_neg (by omega)], by rw [psD, psOk, decide_eq_false (by omega)]; exact Reads.none_, by omega, by omega, hb⟩
theorem putSet_bad2 {w w' : World} {st : Int} {fr : Bool} {l : List UInt8} {e : Ending} (h : 0 ≤ st) (hu : unOk l = false) (he : e = .returned (.tuple #[.slice none 0 0, .int .i64 4])) (hb : Below w.heap.size w w') : PutSetGives w st fr l e w' :=
  ⟨none, 0, 0, by rw [he, psE, if_pos h, unE, hu]; rfl, by rw [psD, psOk, hu, Bool.and_false]; exact Reads.none_, by omega, by omega, hb⟩
theorem putSet_ok {w w' : World} {st : Int} {fr : Bool} {l : List UInt8} {e : Ending} {A : Option Addr} {n c : Nat} (h : 0 ≤ st) (hu : unOk l = true) (he : e = .returned (.tuple #[.slice A n c, .int .i64 0])) (hr : Reads w' w'.heap.size 1 A n (bvs (setB st fr l))) (hc : n ≤ c) (hn : n ≤ 1000100) (hb : Below w.heap.size w w') : PutSetGives w st fr l e w' :=
  ⟨A, n, c, by rw [he, psE, if_pos h, unE, hu]; rfl, by rw [psD, psOk, hu, decide_eq_true h]; exact hr, hc, hn, hb⟩
set_option maxHeartbeats 2000000 in
theorem putset1_any (st cy : Int) (fr : Bool) (A : Option Addr) (n c : Nat) (l : List UInt8) (w : World) (hst : I64 st) (hn : n ≤ 1000000) (hc : n ≤ c) (hr : Reads w w.heap.size 1 A n (bvs l)) :
    Calls Try.prog 31 #[.agg #[.int .i64 st, .int .i64 cy, .bool fr, .slice A n c]] w (PutSetGives w st fr l) := by
  by_cases h0 : st < 0
  · have H := Lib.hid h0
    have HR := Lib.hid hr
    clear hr
    go_enter Try.func31, Try.ntmps31
    go_wp2
    go_ret2
    exact putSet_bad1 H.out rfl (Ba (Below.refl _ _))
  · have h1 : 0 ≤ st := by omega
    have HR := Lib.hid hr
    clear hr
    cases hu : unOk l with
    | false =>
      have HU := Lib.hid hu
      have hE : unE l = 4 := by simp [unE, hu]
      clear hu
      go_enter Try.func31, Try.ntmps31
      go_wp2_with fail
      refine (unpack1_any _ _ _ _ _ hn hc (HR.out.go (Ba (Below.refl _ _)))).mono ?_
      rintro e w1 ⟨A1, n1, c1, A2, n2, c2, he, -, -, hb1⟩
      rw [hE] at he
      subst he
      clear hE
      go_wp2
      go_ret2
      exact putSet_bad2 h1 HU.out rfl (Bt (Ba (Below.refl _ _)) hb1)
    | true =>
      have HU := Lib.hid hu
      have hE : unE l = 0 := by simp [unE, hu]
      clear hu
      cases fr
      · go_enter Try.func31, Try.ntmps31
        go_wp2_with fail
        refine (unpack1_any _ _ _ _ _ hn hc (HR.out.go (Ba (Below.refl _ _)))).mono ?_
        rintro e w1 ⟨A1, n1, c1, A2, n2, c2, he, -, -, hb1⟩
        rw [hE] at he
        subst he
        have kb : ∀ o, w1.cell? ⟨w.heap.size, o, none⟩ = (#[.int .i64 st, .int .i64 cy, .bool false, .slice A n c] : Array Value)[o]? := rowGo hb1 (Blk.new w 64 #[.int .i64 st, .int .i64 cy, .bool false, .slice A n c]).cell rfl
        have hB1 : Below w.heap.size w w1 := Bt (Ba (Below.refl _ _)) hb1
        have hz : w.heap.size < w1.heap.size := by have := hb1.size; simp at this; omega
        have R1 := Lib.hid (HR.out.go hB1)
        have HB1 := Lib.hid hB1
        clear hE hb1 hB1
        go_upto_region 9 with fail
        have hd : Below w1.heap.size w1 w1.drew := (Below.refl _ _).drew
        go_region_held3 (fun w' => (∀ o, w'.cell? ⟨w.heap.size, o, none⟩ = (#[.int .i64 st, .int .i64 cy, .bool false, .slice A n c] : Array Value)[o]?) ∧ Below w1.heap.size w1 w')
          (first
            | exact ⟨kb, hd⟩
            | (rcases ‹_ ∧ Below _ _ _› with ⟨s0, sB⟩; exact ⟨rowGo (by first | assumption | exact Ba (Below.refl _ _)) s0 rfl, Bt sB (by first | assumption | exact Ba (Below.refl _ _))⟩)
            | (rcases ‹_ ∧ Below _ _ _› with ⟨s0, sB⟩; exact ⟨rowB hb6 s0 (by omega), sB.trans hb6⟩)
            | (rcases ‹_ ∧ Below _ _ _› with ⟨s0, sB⟩; exact ⟨rowB hb5 s0 (by omega), sB.trans hb5⟩))
          (first
            | (go_at_call 53; refine (put0 _ _ hst).mono ?_; rintro e w3 ⟨A3, c3, rfl, ho3, hb3⟩; have HO3 := Lib.hid ho3; clear ho3)
            | (rcases ‹_ ∧ Below _ _ _› with ⟨s0, sB⟩; refine stepB (base := w1.heap.size) (n := 8) rfl (.tmp 29) (.tmp 31) (by rfl) (by rfl) (by first | exact ownsRow_mono HO3.out (by simp) | exact own_al (ownsRow_mono HO3.out (by simp))) (by rfl) (by first | exact reads_new _ _ _ 1 1 rfl | exact (Reads.drew (reads_new _ _ _ 1 1 rfl)).goB (by simp) hb3) (by simp [Value.oneCell']) (by omega) sB.size ?_; intro A5 c5 w5 ho5 hb5 hg5; have HO5 := Lib.hid ho5; clear ho5 hg5)
            | (rcases ‹_ ∧ Below _ _ _› with ⟨s0, sB⟩; refine stepB (base := w1.heap.size) (n := 9) rfl (.tmp 32) (.tmp 34) (by rfl) (by rfl) HO5.out (by rfl) (R1.out.go sB) (bvs_one _) (by omega) sB.size ?_; intro A6 c6 w6 ho6 hb6 hg6; have HO6 := Lib.hid ho6; clear ho6 hg6)
            | fail)
        all_goals
          have sB := And.right ‹_ ∧ Below _ _ w6›
          go_wp2_with fail
          go_ret2
          refine putSet_ok h1 HU.out rfl ?_ (own_le HO6.out) (by omega) (Bt HB1.out sB)
          have := Reads.of_own HO6.out
          rw [show bvs (lowB st 8) ++ [Value.int .u8 0] ++ bvs l = bvs (setB st false l) by simp [setB, freshB, bvs]] at this
          exact this
      · go_enter Try.func31, Try.ntmps31
        go_wp2_with fail
        refine (unpack1_any _ _ _ _ _ hn hc (HR.out.go (Ba (Below.refl _ _)))).mono ?_
        rintro e w1 ⟨A1, n1, c1, A2, n2, c2, he, -, -, hb1⟩
        rw [hE] at he
        subst he
        have kb : ∀ o, w1.cell? ⟨w.heap.size, o, none⟩ = (#[.int .i64 st, .int .i64 cy, .bool true, .slice A n c] : Array Value)[o]? := rowGo hb1 (Blk.new w 64 #[.int .i64 st, .int .i64 cy, .bool true, .slice A n c]).cell rfl
        have hB1 : Below w.heap.size w w1 := Bt (Ba (Below.refl _ _)) hb1
        have hz : w.heap.size < w1.heap.size := by have := hb1.size; simp at this; omega
        have R1 := Lib.hid (HR.out.go hB1)
        have HB1 := Lib.hid hB1
        clear hE hb1 hB1
        go_upto_region 9 with fail
        have hd : Below w1.heap.size w1 w1.drew := (Below.refl _ _).drew
        go_region_held3 (fun w' => (∀ o, w'.cell? ⟨w.heap.size, o, none⟩ = (#[.int .i64 st, .int .i64 cy, .bool true, .slice A n c] : Array Value)[o]?) ∧ Below w1.heap.size w1 w')
          (first
            | exact ⟨kb, hd⟩
            | (rcases ‹_ ∧ Below _ _ _› with ⟨s0, sB⟩; exact ⟨rowGo (by first | assumption | exact Ba (Below.refl _ _)) s0 rfl, Bt sB (by first | assumption | exact Ba (Below.refl _ _))⟩)
            | (rcases ‹_ ∧ Below _ _ _› with ⟨s0, sB⟩; exact ⟨rowB hb6 s0 (by omega), sB.trans hb6⟩)
            | (rcases ‹_ ∧ Below _ _ _› with ⟨s0, sB⟩; exact ⟨rowB hb5 s0 (by omega), sB.trans hb5⟩))
          (first
            | (go_at_call 53; refine (put0 _ _ hst).mono ?_; rintro e w3 ⟨A3, c3, rfl, ho3, hb3⟩; have HO3 := Lib.hid ho3; clear ho3)
            | (rcases ‹_ ∧ Below _ _ _› with ⟨s0, sB⟩; refine stepB (base := w1.heap.size) (n := 8) rfl (.tmp 29) (.tmp 31) (by rfl) (by rfl) (by first | exact ownsRow_mono HO3.out (by simp) | exact own_al (ownsRow_mono HO3.out (by simp))) (by rfl) (by first | exact reads_new _ _ _ 1 1 rfl | exact (Reads.drew (reads_new _ _ _ 1 1 rfl)).goB (by simp) hb3) (by simp [Value.oneCell']) (by omega) sB.size ?_; intro A5 c5 w5 ho5 hb5 hg5; have HO5 := Lib.hid ho5; clear ho5 hg5)
            | (rcases ‹_ ∧ Below _ _ _› with ⟨s0, sB⟩; refine stepB (base := w1.heap.size) (n := 9) rfl (.tmp 32) (.tmp 34) (by rfl) (by rfl) HO5.out (by rfl) (R1.out.go sB) (bvs_one _) (by omega) sB.size ?_; intro A6 c6 w6 ho6 hb6 hg6; have HO6 := Lib.hid ho6; clear ho6 hg6)
            | fail)
        all_goals
          have sB := And.right ‹_ ∧ Below _ _ w6›
          go_wp2_with fail
          go_ret2
          refine putSet_ok h1 HU.out rfl ?_ (own_le HO6.out) (by omega) (Bt HB1.out sB)
          have := Reads.of_own HO6.out
          rw [show bvs (lowB st 8) ++ [Value.int .u8 1] ++ bvs l = bvs (setB st true l) by simp [setB, freshB, bvs]] at this
          exact this
set_option maxHeartbeats 2000000 in
theorem putset2_any (st cy : Int) (fr : Bool) (A : Option Addr) (n c : Nat) (l : List UInt8) (w : World) (hst : I64 st) (hn : n ≤ 1000000) (hc : n ≤ c) (hr : Reads w w.heap.size 1 A n (bvs l)) :
    Calls Try.prog 32 #[.agg #[.int .i64 st, .int .i64 cy, .bool fr, .slice A n c]] w (PutSetGives w st fr l) := by
  by_cases h0 : st < 0
  · have H := Lib.hid h0
    have HR := Lib.hid hr
    clear hr
    go_enter Try.func32, Try.ntmps32
    go_wp2
    go_ret2
    exact putSet_bad1 H.out rfl (Ba (Below.refl _ _))
  · have h1 : 0 ≤ st := by omega
    have HR := Lib.hid hr
    clear hr
    cases hu : unOk l with
    | false =>
      have HU := Lib.hid hu
      have hE : unE l = 4 := by simp [unE, hu]
      clear hu
      go_enter Try.func32, Try.ntmps32
      go_wp2_with fail
      refine (unpack2_any _ _ _ _ _ hn hc (HR.out.go (Ba (Below.refl _ _)))).mono ?_
      rintro e w1 ⟨A1, n1, c1, A2, n2, c2, he, -, -, hb1⟩
      rw [hE] at he
      subst he
      clear hE
      go_wp2
      go_ret2
      exact putSet_bad2 h1 HU.out rfl (Bt (Ba (Below.refl _ _)) hb1)
    | true =>
      have HU := Lib.hid hu
      have hE : unE l = 0 := by simp [unE, hu]
      clear hu
      cases fr
      · go_enter Try.func32, Try.ntmps32
        go_wp2_with fail
        refine (unpack2_any _ _ _ _ _ hn hc (HR.out.go (Ba (Below.refl _ _)))).mono ?_
        rintro e w1 ⟨A1, n1, c1, A2, n2, c2, he, -, -, hb1⟩
        rw [hE] at he
        subst he
        have kb : ∀ o, w1.cell? ⟨w.heap.size, o, none⟩ = (#[.int .i64 st, .int .i64 cy, .bool false, .slice A n c] : Array Value)[o]? := rowGo hb1 (Blk.new w 67 #[.int .i64 st, .int .i64 cy, .bool false, .slice A n c]).cell rfl
        have hB1 : Below w.heap.size w w1 := Bt (Ba (Below.refl _ _)) hb1
        have hz : w.heap.size < w1.heap.size := by have := hb1.size; simp at this; omega
        have R1 := Lib.hid (HR.out.go hB1)
        have HB1 := Lib.hid hB1
        clear hE hb1 hB1
        go_upto_region 9 with fail
        have hd : Below w1.heap.size w1 w1.drew := (Below.refl _ _).drew
        go_region_held3 (fun w' => (∀ o, w'.cell? ⟨w.heap.size, o, none⟩ = (#[.int .i64 st, .int .i64 cy, .bool false, .slice A n c] : Array Value)[o]?) ∧ Below w1.heap.size w1 w')
          (first
            | exact ⟨kb, hd⟩
            | (rcases ‹_ ∧ Below _ _ _› with ⟨s0, sB⟩; exact ⟨rowGo (by first | assumption | exact Ba (Below.refl _ _)) s0 rfl, Bt sB (by first | assumption | exact Ba (Below.refl _ _))⟩)
            | (rcases ‹_ ∧ Below _ _ _› with ⟨s0, sB⟩; exact ⟨rowB hb6 s0 (by omega), sB.trans hb6⟩)
            | (rcases ‹_ ∧ Below _ _ _› with ⟨s0, sB⟩; exact ⟨rowB hb5 s0 (by omega), sB.trans hb5⟩))
          (first
            | (go_at_call 54; refine (low8 _ _).mono ?_; rintro e w3 ⟨A3, c3, rfl, ho3, hb3⟩; have HO3 := Lib.hid ho3; clear ho3)
            | (rcases ‹_ ∧ Below _ _ _› with ⟨s0, sB⟩; refine stepB (base := w1.heap.size) (n := 8) rfl (.tmp 29) (.tmp 31) (by rfl) (by rfl) (by first | exact ownsRow_mono HO3.out (by simp) | exact own_al (ownsRow_mono HO3.out (by simp))) (by rfl) (by first | exact reads_new _ _ _ 1 1 rfl | exact (Reads.drew (reads_new _ _ _ 1 1 rfl)).goB (by simp) hb3) (by simp [Value.oneCell']) (by omega) sB.size ?_; intro A5 c5 w5 ho5 hb5 hg5; have HO5 := Lib.hid ho5; clear ho5 hg5)
            | (rcases ‹_ ∧ Below _ _ _› with ⟨s0, sB⟩; refine stepB (base := w1.heap.size) (n := 9) rfl (.tmp 32) (.tmp 34) (by rfl) (by rfl) HO5.out (by rfl) (R1.out.go sB) (bvs_one _) (by omega) sB.size ?_; intro A6 c6 w6 ho6 hb6 hg6; have HO6 := Lib.hid ho6; clear ho6 hg6)
            | fail)
        all_goals
          have sB := And.right ‹_ ∧ Below _ _ w6›
          go_wp2_with fail
          go_ret2
          refine putSet_ok h1 HU.out rfl ?_ (own_le HO6.out) (by omega) (Bt HB1.out sB)
          have := Reads.of_own HO6.out
          rw [show bvs (lowB st 8) ++ [Value.int .u8 0] ++ bvs l = bvs (setB st false l) by simp [setB, freshB, bvs]] at this
          exact this
      · go_enter Try.func32, Try.ntmps32
        go_wp2_with fail
        refine (unpack2_any _ _ _ _ _ hn hc (HR.out.go (Ba (Below.refl _ _)))).mono ?_
        rintro e w1 ⟨A1, n1, c1, A2, n2, c2, he, -, -, hb1⟩
        rw [hE] at he
        subst he
        have kb : ∀ o, w1.cell? ⟨w.heap.size, o, none⟩ = (#[.int .i64 st, .int .i64 cy, .bool true, .slice A n c] : Array Value)[o]? := rowGo hb1 (Blk.new w 67 #[.int .i64 st, .int .i64 cy, .bool true, .slice A n c]).cell rfl
        have hB1 : Below w.heap.size w w1 := Bt (Ba (Below.refl _ _)) hb1
        have hz : w.heap.size < w1.heap.size := by have := hb1.size; simp at this; omega
        have R1 := Lib.hid (HR.out.go hB1)
        have HB1 := Lib.hid hB1
        clear hE hb1 hB1
        go_upto_region 9 with fail
        have hd : Below w1.heap.size w1 w1.drew := (Below.refl _ _).drew
        go_region_held3 (fun w' => (∀ o, w'.cell? ⟨w.heap.size, o, none⟩ = (#[.int .i64 st, .int .i64 cy, .bool true, .slice A n c] : Array Value)[o]?) ∧ Below w1.heap.size w1 w')
          (first
            | exact ⟨kb, hd⟩
            | (rcases ‹_ ∧ Below _ _ _› with ⟨s0, sB⟩; exact ⟨rowGo (by first | assumption | exact Ba (Below.refl _ _)) s0 rfl, Bt sB (by first | assumption | exact Ba (Below.refl _ _))⟩)
            | (rcases ‹_ ∧ Below _ _ _› with ⟨s0, sB⟩; exact ⟨rowB hb6 s0 (by omega), sB.trans hb6⟩)
            | (rcases ‹_ ∧ Below _ _ _› with ⟨s0, sB⟩; exact ⟨rowB hb5 s0 (by omega), sB.trans hb5⟩))
          (first
            | (go_at_call 54; refine (low8 _ _).mono ?_; rintro e w3 ⟨A3, c3, rfl, ho3, hb3⟩; have HO3 := Lib.hid ho3; clear ho3)
            | (rcases ‹_ ∧ Below _ _ _› with ⟨s0, sB⟩; refine stepB (base := w1.heap.size) (n := 8) rfl (.tmp 29) (.tmp 31) (by rfl) (by rfl) (by first | exact ownsRow_mono HO3.out (by simp) | exact own_al (ownsRow_mono HO3.out (by simp))) (by rfl) (by first | exact reads_new _ _ _ 1 1 rfl | exact (Reads.drew (reads_new _ _ _ 1 1 rfl)).goB (by simp) hb3) (by simp [Value.oneCell']) (by omega) sB.size ?_; intro A5 c5 w5 ho5 hb5 hg5; have HO5 := Lib.hid ho5; clear ho5 hg5)
            | (rcases ‹_ ∧ Below _ _ _› with ⟨s0, sB⟩; refine stepB (base := w1.heap.size) (n := 9) rfl (.tmp 32) (.tmp 34) (by rfl) (by rfl) HO5.out (by rfl) (R1.out.go sB) (bvs_one _) (by omega) sB.size ?_; intro A6 c6 w6 ho6 hb6 hg6; have HO6 := Lib.hid ho6; clear ho6 hg6)
            | fail)
        all_goals
          have sB := And.right ‹_ ∧ Below _ _ w6›
          go_wp2_with fail
          go_ret2
          refine putSet_ok h1 HU.out rfl ?_ (own_le HO6.out) (by omega) (Bt HB1.out sB)
          have := Reads.of_own HO6.out
          rw [show bvs (lowB st 8) ++ [Value.int .u8 1] ++ bvs l = bvs (setB st true l) by simp [setB, freshB, bvs]] at this
          exact this
end Go.Proofs.Ytgnajpoebooafaa
