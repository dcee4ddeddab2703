/-
The payload of a hello, read by the reference: the contract of its GetHello. Conditions: lengths of at most 1000000.
-/
import Derived.Test.YtgnajpoebooafaaAgGh
namespace Go.Proofs.Ytgnajpoebooafaa
set_option linter.unusedVariables false
set_option linter.unusedSimpArgs false
set_option maxRecDepth 100000
open Go.RowKit
theorem numv (A : Option Addr) (k c : Nat) (bs : List UInt8) (v : Int) (w : World) (hv : numI bs = v) (hk : k ≤ 8) (hr : Reads w w.heap.size 1 A k (bvs bs)) :
    Calls Try.prog 58 #[.slice A k c] w fun e w' => e = .returned (.int .i64 v) ∧ w = w' := by subst hv; exact num_any A k c bs w hk hr
theorem hOk_is {p : List UInt8} {n : Nat} (h : 19 ≤ n ∧ n ≤ 419) (h0 : 1 ≤ at8 p 0) (h3 : at8 p 0 ≤ 3) (hs : 0 ≤ (hSt p)) (hb : 0 ≤ (hBa p)) : hOk p n = true := by
  have hv := num_len2 (p.drop 17)
  unfold hOk phArg
  rw [decide_eq_true h, Bool.true_and, decide_eq_true]
  exact ⟨h0, h3, hs, hb, by rw [← hHv_eq, hv.1]; omega, by rw [← hHv_eq, hv.1]; exact hv.2⟩
theorem hOk_not {p : List UInt8} {n : Nat} (h : ¬ (19 ≤ n ∧ n ≤ 419) ∨ at8 p 0 < 1 ∨ 3 < at8 p 0 ∨ (hSt p) < 0 ∨ (hBa p) < 0) : hOk p n = false := by
  unfold hOk phArg
  rw [← Bool.decide_and, decide_eq_false_iff_not]
  omega
set_option maxHeartbeats 4000000 in
theorem gethello2_any (A : Option Addr) (n c : Nat) (p : List UInt8) (w : World) (hn : n ≤ 1000000) (hc : n ≤ c) (hr : Reads w w.heap.size 1 A n (bvs p)) :
    Calls Try.prog 30 #[.slice A n c] w (GetHelloGives w p n) := by
  by_cases h9 : n < 19
  · have HN := Lib.hid (hOk_not (p := p) (n := n) (Or.inl (by omega)))
    clear hr
    go_enter Try.func30, Try.ntmps30
    go_wp2
    refine bodyPost_ret (v := .tuple #[.agg #[.int .u8 0, .int .i64 0, .int .i64 0, .int .i64 0, .slice none 0 0], .int .i64 4]) (by simp [results, Try.results30, go_sem]) rfl ?_
    exact getHello_no HN.out rfl (Ba (Below.refl _ _))
  · have h9' : 19 ≤ n := by omega
    by_cases h41 : 419 < n
    · have HN := Lib.hid (hOk_not (p := p) (n := n) (Or.inl (by omega)))
      clear hr
      go_enter Try.func30, Try.ntmps30
      go_wp2
      refine bodyPost_ret (v := .tuple #[.agg #[.int .u8 0, .int .i64 0, .int .i64 0, .int .i64 0, .slice none 0 0], .int .i64 4]) (by simp [results, Try.results30, go_sem]) rfl ?_
      exact getHello_no HN.out rfl (Ba (Below.refl _ _))
    · have h41' : n ≤ 419 := by omega
      obtain ⟨ad, rfl, hbl, q0⟩ := hr.byte (k := 0) (by omega)
      have q0 : w.cell? ad = some (.int .u8 (at8 p 0)) := by simpa [Addr.add] using q0
      have hat := at8_lt p 0
      have HL := Lib.hid (show p.length = n by have := hr.1; rw [bvs_length] at this; omega)
      have r1 := hr.midA (k := 1) (m := 9) (cap := c) (by omega) (by omega) hc
      rw [← bvs_drop, ← bvs_take] at r1
      have R1 := Lib.hid (p := Reads w w.heap.size 1 (cutA (some ad) 1 c 1) 8 (bvs ((p.drop 1).take 8))) r1
      have s1 : ∀ W, (Instr.sliceAt 22 (.slice (some ad) n c) (some (.int .i64 1)) (some (.int .i64 9)) none).run Try.prog W = .ok (.slice (cutA (some ad) 1 c 1) 8 (c - 1)) W := fun W => midB (some ad) n c 1 9 (by omega) (by omega) (by omega) W
      clear r1
      have r9 := hr.midA (k := 9) (m := 17) (cap := c) (by omega) (by omega) hc
      rw [← bvs_drop, ← bvs_take] at r9
      have R9 := Lib.hid (p := Reads w w.heap.size 1 (cutA (some ad) 9 c 1) 8 (bvs ((p.drop 9).take 8))) r9
      have s9 : ∀ W, (Instr.sliceAt 22 (.slice (some ad) n c) (some (.int .i64 9)) (some (.int .i64 17)) none).run Try.prog W = .ok (.slice (cutA (some ad) 9 c 1) 8 (c - 9)) W := fun W => midB (some ad) n c 9 17 (by omega) (by omega) (by omega) W
      clear r9
      have r17 := hr.midA (k := 17) (m := 19) (cap := c) (by omega) (by omega) hc
      rw [← bvs_drop, ← bvs_take] at r17
      have R17 := Lib.hid (p := Reads w w.heap.size 1 (cutA (some ad) 17 c 1) 2 (bvs ((p.drop 17).take 2))) r17
      have s17 : ∀ W, (Instr.sliceAt 22 (.slice (some ad) n c) (some (.int .i64 17)) (some (.int .i64 19)) none).run Try.prog W = .ok (.slice (cutA (some ad) 17 c 1) 2 (c - 17)) W := fun W => midB (some ad) n c 17 19 (by omega) (by omega) (by omega) W
      clear r17
      have r19 := hr.midA (k := 19) (m := n) (cap := c) (by omega) (by omega) hc
      rw [← bvs_drop, ← bvs_take, List.take_of_length_le (by rw [List.length_drop, HL.out]; omega)] at r19
      have R19 := Lib.hid r19
      have s19 : ∀ W, (Instr.sliceAt 22 (.slice (some ad) n c) (some (.int .i64 19)) none none).run Try.prog W = .ok (.slice (cutA (some ad) 19 c 1) (n - 19) (c - 19)) W := fun W => fromB (some ad) n c 19 (by omega) (by omega) W
      clear r19 hr h9 h41
      have i0 : (0 : Int) < (n : Int) := by omega
      by_cases h0 : at8 p 0 < 1
      · have HN := Lib.hid (hOk_not (p := p) (n := n) (Or.inr (Or.inl h0)))
        go_enter Try.func30, Try.ntmps30
        go_wp2
        refine bodyPost_ret (v := .tuple #[.agg #[.int .u8 0, .int .i64 0, .int .i64 0, .int .i64 0, .slice none 0 0], .int .i64 4]) (by simp [results, Try.results30, go_sem]) rfl ?_
        exact getHello_no HN.out rfl (Ba (Below.refl _ _))
      · by_cases h3 : 3 < at8 p 0
        · have HN := Lib.hid (hOk_not (p := p) (n := n) (Or.inr (Or.inr (Or.inl h3))))
          go_enter Try.func30, Try.ntmps30
          go_wp2
          refine bodyPost_ret (v := .tuple #[.agg #[.int .u8 0, .int .i64 0, .int .i64 0, .int .i64 0, .slice none 0 0], .int .i64 4]) (by simp [results, Try.results30, go_sem]) rfl ?_
          exact getHello_no HN.out rfl (Ba (Below.refl _ _))
        · have h0' : 1 ≤ at8 p 0 := by omega
          have h3' : at8 p 0 ≤ 3 := by omega
          by_cases hs : (hSt p) < 0
          · have HN := Lib.hid (hOk_not (p := p) (n := n) (Or.inr (Or.inr (Or.inr (Or.inl hs)))))
            go_enter Try.func30, Try.ntmps30
            go_wp2_with fail
            refine (numv _ _ _ _ _ _ (hSt_eq p) (by omega) (R1.out.go (Ba (Below.refl _ _)))).mono ?_
            rintro e w1 ⟨rfl, rfl⟩
            go_wp2
            refine bodyPost_ret (v := .tuple #[.agg #[.int .u8 0, .int .i64 0, .int .i64 0, .int .i64 0, .slice none 0 0], .int .i64 4]) (by simp [results, Try.results30, go_sem]) rfl ?_
            exact getHello_no HN.out rfl (Ba (Below.refl _ _))
          · have hs' : 0 ≤ (hSt p) := by omega
            by_cases hb : (hBa p) < 0
            · have HN := Lib.hid (hOk_not (p := p) (n := n) (Or.inr (Or.inr (Or.inr (Or.inr hb)))))
              go_enter Try.func30, Try.ntmps30
              go_wp2_with fail
              refine (numv _ _ _ _ _ _ (hSt_eq p) (by omega) (R1.out.go (Ba (Below.refl _ _)))).mono ?_
              rintro e w1 ⟨rfl, rfl⟩
              go_wp2_with fail
              refine (numv _ _ _ _ _ _ (hBa_eq p) (by omega) (R9.out.go (Ba (Below.refl _ _)))).mono ?_
              rintro e w1 ⟨rfl, rfl⟩
              go_wp2
              refine bodyPost_ret (v := .tuple #[.agg #[.int .u8 0, .int .i64 0, .int .i64 0, .int .i64 0, .slice none 0 0], .int .i64 4]) (by simp [results, Try.results30, go_sem]) rfl ?_
              exact getHello_no HN.out rfl (Ba (Below.refl _ _))
            · have hb' : 0 ≤ (hBa p) := by omega
              have HY := Lib.hid (hOk_is (p := p) (n := n) ⟨h9', h41'⟩ h0' h3' hs' hb')
              go_enter Try.func30, Try.ntmps30
              go_wp2_with fail
              refine (numv _ _ _ _ _ _ (hSt_eq p) (by omega) (R1.out.go (Ba (Below.refl _ _)))).mono ?_
              rintro e w1 ⟨rfl, rfl⟩
              go_wp2_with fail
              refine (numv _ _ _ _ _ _ (hBa_eq p) (by omega) (R9.out.go (Ba (Below.refl _ _)))).mono ?_
              rintro e w1 ⟨rfl, rfl⟩
              go_upto_region 3 with fail
              go_cut [4] (fun v wx => v = .pointer (some ⟨w.heap.size + 1, 0, none⟩) ∧ ((w.alloc (.cells #[.int .u8 0, .int .i64 0, .int .i64 0, .int .i64 0, .slice none 0 0] 55)).alloc (.cells #[.int .i64 (hBa p), .int .i64 (hHv p)] 53)).drew = wx)
              case first =>
                go_region_held3 (fun w' => Below w.heap.size w w')
                  (repeat (first | assumption | exact Below.refl _ _ | refine Below.drew ?_ | refine Ba ?_))
                  (first
                    | (go_at_call 58; first
                      | ((with_reducible refine (numv _ _ _ _ _ _ (hBa_eq p) (by omega) (R9.out.go (by assumption))).mono ?_); rintro e w3 ⟨rfl, rfl⟩)
                      | ((with_reducible refine (numv _ _ _ _ _ _ (hHv_eq p) (by omega) (R17.out.go (by assumption))).mono ?_); rintro e w3 ⟨rfl, rfl⟩))
                    | fail)
                all_goals
                  go_wp2_with fail
                  go_meet
                  exact ⟨rfl, rfl⟩
              case rest =>
                obtain ⟨rfl, rfl⟩ := hcut
                have mk : ∀ w' : World, Below w.heap.size w w' → Blk w' (w.heap.size + 1) 53 #[.int .i64 (hBa p), .int .i64 (hHv p)] → (w'.cell? ad = some (.int .u8 (at8 p 0)) ∧ Blk w' (w.heap.size + 1) 53 #[.int .i64 (hBa p), .int .i64 (hHv p)] ∧ (∀ o, w'.cell? ⟨w.heap.size + 1, o, none⟩ = (#[.int .i64 (hBa p), .int .i64 (hHv p)] : Array Value)[o]?)) ∧ Below w.heap.size w w' := fun w' h hk => ⟨⟨(h.cell (p := ad) hbl).trans q0, hk, hk.cell⟩, h⟩
                have MK := Lib.hid mk
                clear mk
                go_upto_region 4 with fail
                go_region_held3 (fun w' => (w'.cell? ad = some (.int .u8 (at8 p 0)) ∧ Blk w' (w.heap.size + 1) 53 #[.int .i64 (hBa p), .int .i64 (hHv p)] ∧ (∀ o, w'.cell? ⟨w.heap.size + 1, o, none⟩ = (#[.int .i64 (hBa p), .int .i64 (hHv p)] : Array Value)[o]?)) ∧ Below w.heap.size w w')
                  (first
                    | with_reducible assumption
                    | exact MK.out _ (by repeat (first | with_reducible assumption | with_reducible exact Below.refl _ _ | with_reducible refine Below.drew ?_ | with_reducible refine Ba ?_ | with_reducible refine Below.setCell ?_ (by simp) _)) (by repeat (first | with_reducible assumption | with_reducible refine Blk.drew ?_ | with_reducible exact Blk.new' (by simp) | with_reducible refine Blk.alloc ?_ _ | with_reducible refine Blk.far ?_ (by simp) _)))
                  (first
                    | (go_at_call 58; rcases ‹_ ∧ Below _ _ _› with ⟨_, sB⟩; refine (numv _ _ _ _ _ _ (hSt_eq p) (by omega) (R1.out.go sB)).mono ?_; rintro e w3 ⟨rfl, rfl⟩)
                    | (rcases ‹_ ∧ Below _ _ _› with ⟨⟨_, kB, _⟩, sB⟩; refine stepB0 (base := w.heap.size + 2) rfl (.tmp 52) (.tmp 54) (by rfl) (by rfl) (by repeat (first | with_reducible refine own_dr ?_ | with_reducible exact own_nil' (by simp) (by simp) | with_reducible refine own_al ?_)) (by rfl) (R19.out.go sB) (bvs_one _) (by omega) (by simp) ?_; intro A5 c5 w5 ho5 hb5 hg5; have hw5 : Below w.heap.size w w5 := sB.trans (hb5.mono (by omega)); have zw : Blk w5 (w.heap.size + 1) 53 #[.int .i64 (hBa p), .int .i64 (hHv p)] := Blk.grown kB hg5 (by first | (simp; done) | (simp; omega)); have z5 : Blk w5 w.heap.size 55 #[.int .u8 0, .int .i64 0, .int .i64 0, .int .i64 0, .slice none 0 0] := Blk.grown (by repeat (first | with_reducible refine Blk.drew ?_ | with_reducible exact Blk.new' rfl | with_reducible refine Blk.alloc ?_ _)) hg5 (by first | (simp; done) | (simp; omega)); have Z5 := Lib.hid z5; have d5 := z5.cell; have f5 := z5.frozen; have HO5 := Lib.hid ho5; clear ho5 hb5 hg5 z5)
                    | fail)
                all_goals
                  go_wp2_with fail
                  have z5 := Z5.out
                  have t0 : _ = some (Value.int .u8 (at8 p 0)) := ((z5.set_ 0 (.int .u8 (at8 p 0))).cell 0).trans (by simp)
                  have t1 : _ = some (Value.int .i64 (hSt p)) := (((z5.set_ 0 (.int .u8 (at8 p 0))).set_ 1 (.int .i64 (hSt p))).cell 1).trans (by simp)
                  have t2 : _ = some (Value.int .i64 (hBa p)) := ((((z5.set_ 0 (.int .u8 (at8 p 0))).set_ 1 (.int .i64 (hSt p))).set_ 2 (.int .i64 (hBa p))).cell 2).trans (by simp)
                  have t3 : _ = some (Value.int .i64 (hHv p)) := (((((z5.set_ 0 (.int .u8 (at8 p 0))).set_ 1 (.int .i64 (hSt p))).set_ 2 (.int .i64 (hBa p))).set_ 3 (.int .i64 (hHv p))).cell 3).trans (by simp)
                  have t4 : _ = some (Value.slice A5 (n - 19) c5) := ((((((z5.set_ 0 (.int .u8 (at8 p 0))).set_ 1 (.int .i64 (hSt p))).set_ 2 (.int .i64 (hBa p))).set_ 3 (.int .i64 (hHv p))).set_ 4 (.slice A5 (n - 19) c5)).cell 4).trans (by simp)
                  refine bodyPost_ret (v := .tuple #[.agg #[.int .u8 (at8 p 0), .int .i64 (hSt p), .int .i64 (hBa p), .int .i64 (hHv p), .slice A5 (n - 19) c5], .int .i64 0]) (by simp [results, Try.results30, go_sem, t0, t1, t2, t3, t4]) rfl ?_
                  exact getHello_yes HY.out rfl (Reads.of_own (base := w.heap.size + 2) (e := 5) (c := c5) (own_set5 HO5.out z5 (by decide) _ _ _ _ _)) (own_le HO5.out) (set5' hw5 (Nat.le_refl _))
end Go.Proofs.Ytgnajpoebooafaa
