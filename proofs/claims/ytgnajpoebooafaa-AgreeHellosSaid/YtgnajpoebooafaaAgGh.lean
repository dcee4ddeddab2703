/-
The payload of a hello, read: the contract of the program's GetHello. Conditions: lengths of at most 1000000.
-/
import Derived.Test.YtgnajpoebooafaaAgHello
import Derived.Test.YtgnajpoebooafaaAgGs
namespace Go.Proofs.Ytgnajpoebooafaa
set_option linter.unusedVariables false
set_option linter.unusedSimpArgs false
set_option maxRecDepth 100000
open Go.RowKit
def hSt (p : List UInt8) : Int := numI ((p.drop 1).take 8)
def hBa (p : List UInt8) : Int := numI ((p.drop 9).take 8)
def hHv (p : List UInt8) : Int := numI ((p.drop 17).take 2)
theorem hSt_eq (p : List UInt8) : numI ((p.drop 1).take 8) = hSt p := rfl
theorem hBa_eq (p : List UInt8) : numI ((p.drop 9).take 8) = hBa p := rfl
theorem hHv_eq (p : List UInt8) : numI ((p.drop 17).take 2) = hHv p := rfl
def hOk (p : List UInt8) (n : Nat) : Bool := decide (19 ≤ n ∧ n ≤ 419) && phArg (at8 p 0) (hSt p) (hBa p) (hHv p)
def ghR (p : List UInt8) (n : Nat) : Int := if hOk p n then at8 p 0 else 0
def ghS (p : List UInt8) (n : Nat) : Int := if hOk p n then (hSt p) else 0
def ghB (p : List UInt8) (n : Nat) : Int := if hOk p n then (hBa p) else 0
def ghV (p : List UInt8) (n : Nat) : Int := if hOk p n then (hHv p) else 0
def ghD (p : List UInt8) (n : Nat) : List UInt8 := if hOk p n then p.drop 19 else []
def ghE (p : List UInt8) (n : Nat) : Int := if hOk p n then 0 else 4
theorem ghR_yes {p : List UInt8} {n : Nat} (h : hOk p n = true) : ghR p n = at8 p 0 := if_pos h
theorem ghS_yes {p : List UInt8} {n : Nat} (h : hOk p n = true) : ghS p n = (hSt p) := if_pos h
theorem ghB_yes {p : List UInt8} {n : Nat} (h : hOk p n = true) : ghB p n = (hBa p) := if_pos h
theorem ghV_yes {p : List UInt8} {n : Nat} (h : hOk p n = true) : ghV p n = (hHv p) := if_pos h
theorem ghD_yes {p : List UInt8} {n : Nat} (h : hOk p n = true) : ghD p n = p.drop 19 := if_pos h
theorem ghE_yes {p : List UInt8} {n : Nat} (h : hOk p n = true) : ghE p n = 0 := if_pos h
theorem if_not {α : Type} {b : Bool} {x y : α} (h : b = false) : (if b then x else y) = y := by rw [h]; rfl
theorem gh_no {p : List UInt8} {n : Nat} (h : hOk p n = false) : ghR p n = 0 ∧ ghS p n = 0 ∧ ghB p n = 0 ∧ ghV p n = 0 ∧ ghD p n = [] ∧ ghE p n = 4 := ⟨if_not h, if_not h, if_not h, if_not h, if_not h, if_not h⟩
def GetHelloGives (w : World) (p : List UInt8) (n : Nat) (e : Ending) (w' : World) : Prop :=
  ∃ A m c, e = .returned (.tuple #[.agg #[.int .u8 (ghR p n), .int .i64 (ghS p n), .int .i64 (ghB p n), .int .i64 (ghV p n), .slice A m c], .int .i64 (ghE p n)]) ∧ Reads w' w'.heap.size 1 A m (bvs (ghD p n)) ∧ m ≤ c ∧ Below w.heap.size w w'
theorem getHello_no {w w' : World} {p : List UInt8} {n : Nat} {e : Ending} (h : hOk p n = false) (he : e = .returned (.tuple #[.agg #[.int .u8 0, .int .i64 0, .int .i64 0, .int .i64 0, .slice none 0 0], .int .i64 4])) (hb : Below w.heap.size w w') : GetHelloGives w p n e w' := by
  obtain ⟨h1, h2, h3, h4, h5, h6⟩ := gh_no h
  unfold GetHelloGives
  rw [h1, h2, h3, h4, h5, h6]
  exact ⟨none, 0, 0, he, Reads.none_, by omega, hb⟩
theorem getHello_yes {w w' : World} {p : List UInt8} {n : Nat} {e : Ending} {A : Option Addr} {m c : Nat} (h : hOk p n = true) (he : e = .returned (.tuple #[.agg #[.int .u8 (at8 p 0), .int .i64 (hSt p), .int .i64 (hBa p), .int .i64 (hHv p), .slice A m c], .int .i64 0])) (hr : Reads w' w'.heap.size 1 A m (bvs (p.drop 19))) (hc : m ≤ c) (hb : Below w.heap.size w w') : GetHelloGives w p n e w' := by
  unfold GetHelloGives
  rw [ghR_yes h, ghS_yes h, ghB_yes h, ghV_yes h, ghD_yes h, ghE_yes h]
  exact ⟨A, m, c, he, hr, hc, hb⟩
theorem set5' {B g : Nat} {w W0 : World} {a b c d e : Value} (h : Below B W0 w) (hg : B ≤ g) : Below B W0 (((((w.setCell ⟨g, 0, none⟩ a).setCell ⟨g, 1, none⟩ b).setCell ⟨g, 2, none⟩ c).setCell ⟨g, 3, none⟩ d).setCell ⟨g, 4, none⟩ e) :=
  ((((h.setCell hg _).setCell hg _).setCell hg _).setCell hg _).setCell hg _
theorem own_set5 {w : World} {b : Nat} {e : TypeId} {s : Nat} {v : Value} {n : Nat} {xs : List Value} (h : w.ownsRow b e s v n xs) {g : Nat} {t : TypeId} {cs : Array Value} (hg : Blk w g t cs) (hne : e ≠ t) (a0 a1 a2 a3 a4 : Value) :
    (((((w.setCell ⟨g, 0, none⟩ a0).setCell ⟨g, 1, none⟩ a1).setCell ⟨g, 2, none⟩ a2).setCell ⟨g, 3, none⟩ a3).setCell ⟨g, 4, none⟩ a4).ownsRow b e s v n xs :=
  own_setCell (own_setCell (own_setCell (own_setCell (own_setCell h hg hne 0 _) (hg.set_ 0 _) hne 1 _) ((hg.set_ 0 _).set_ 1 _) hne 2 _) (((hg.set_ 0 _).set_ 1 _).set_ 2 _) hne 3 _) ((((hg.set_ 0 _).set_ 1 _).set_ 2 _).set_ 3 _) hne 4 _
theorem phE_small (ro st ba hv : Int) (n : Nat) (h : n ≤ 400) : phE ro st ba hv n = if phArg ro st ba hv then 0 else 1 := by
  unfold phE; rw [if_pos h]
theorem get8v (A : Option Addr) (n c : Nat) (bs : List UInt8) (v : Int) (w : World) (hv : numI (bs.take 8) = v) (hkn : 8 ≤ n) (hn : n ≤ 1000000) (hr : Reads w w.heap.size 1 A n (bvs bs)) :
    Calls Try.prog 55 #[.slice A n c, .int .i64 8] w fun e w' => e = .returned (.int .i64 v) ∧ w = w' := by subst hv; exact get8 A n c bs w hkn hn hr
theorem get2v (A : Option Addr) (n c : Nat) (bs : List UInt8) (v : Int) (w : World) (hv : numI (bs.take 2) = v) (hkn : 2 ≤ n) (hn : n ≤ 1000000) (hr : Reads w w.heap.size 1 A n (bvs bs)) :
    Calls Try.prog 55 #[.slice A n c, .int .i64 2] w fun e w' => e = .returned (.int .i64 v) ∧ w = w' := by subst hv; exact get_any A n 2 c bs w (by omega) hkn hn hr
theorem get2 (A : Option Addr) (n c : Nat) (bs : List UInt8) (w : World) (hkn : 2 ≤ n) (hn : n ≤ 1000000) (hr : Reads w w.heap.size 1 A n (bvs bs)) :
    Calls Try.prog 55 #[.slice A n c, .int .i64 2] w fun e w' => e = .returned (.int .i64 (numI (bs.take 2))) ∧ w = w' := get_any A n 2 c bs w (by omega) hkn hn hr
set_option maxHeartbeats 4000000 in
theorem gethello1_any (A : Option Addr) (n c : Nat) (p : List UInt8) (w : World) (hn : n ≤ 1000000) (hc : n ≤ c) (hr : Reads w w.heap.size 1 A n (bvs p)) :
    Calls Try.prog 28 #[.slice A n c] w (GetHelloGives w p n) := by
  by_cases h9 : n < 19
  · have HN := Lib.hid (show hOk p n = false by unfold hOk; rw [decide_eq_false (show ¬ (19 ≤ n ∧ n ≤ 419) by omega), Bool.false_and])
    clear hr
    go_enter Try.func28, Try.ntmps28
    go_wp2
    refine bodyPost_ret (v := .tuple #[.agg #[.int .u8 0, .int .i64 0, .int .i64 0, .int .i64 0, .slice none 0 0], .int .i64 4]) (by simp [results, Try.results28, go_sem]) rfl ?_
    exact getHello_no HN.out rfl (Ba (Below.refl _ _))
  · have h9' : 19 ≤ n := by omega
    by_cases h41 : 419 < n
    · have HN := Lib.hid (show hOk p n = false by unfold hOk; rw [decide_eq_false (show ¬ (19 ≤ n ∧ n ≤ 419) by omega), Bool.false_and])
      clear hr
      go_enter Try.func28, Try.ntmps28
      go_wp2
      refine bodyPost_ret (v := .tuple #[.agg #[.int .u8 0, .int .i64 0, .int .i64 0, .int .i64 0, .slice none 0 0], .int .i64 4]) (by simp [results, Try.results28, go_sem]) rfl ?_
      exact getHello_no HN.out rfl (Ba (Below.refl _ _))
    · have h41' : n ≤ 419 := by omega
      obtain ⟨ad, rfl, hbl, q0⟩ := hr.byte (k := 0) (by omega)
      have q0 : w.cell? ad = some (.int .u8 (at8 p 0)) := by simpa [Addr.add] using q0
      have hat := at8_lt p 0
      have HL := Lib.hid (show p.length = n by have := hr.1; rw [bvs_length] at this; omega)
      have r1 := hr.midA (k := 1) (m := n) (cap := c) (by omega) (by omega) hc
      rw [← bvs_drop, ← bvs_take, List.take_of_length_le (by rw [List.length_drop, HL.out]; omega)] at r1
      have R1 := Lib.hid r1
      have s1 : ∀ W, (Instr.sliceAt 22 (.slice (some ad) n c) (some (.int .i64 1)) none none).run Try.prog W = .ok (.slice (cutA (some ad) 1 c 1) (n - 1) (c - 1)) W := fun W => fromB (some ad) n c 1 (by omega) (by omega) W
      clear r1
      have r9 := hr.midA (k := 9) (m := n) (cap := c) (by omega) (by omega) hc
      rw [← bvs_drop, ← bvs_take, List.take_of_length_le (by rw [List.length_drop, HL.out]; omega)] at r9
      have R9 := Lib.hid r9
      have s9 : ∀ W, (Instr.sliceAt 22 (.slice (some ad) n c) (some (.int .i64 9)) none none).run Try.prog W = .ok (.slice (cutA (some ad) 9 c 1) (n - 9) (c - 9)) W := fun W => fromB (some ad) n c 9 (by omega) (by omega) W
      clear r9
      have r17 := hr.midA (k := 17) (m := n) (cap := c) (by omega) (by omega) hc
      rw [← bvs_drop, ← bvs_take, List.take_of_length_le (by rw [List.length_drop, HL.out]; omega)] at r17
      have R17 := Lib.hid r17
      have s17 : ∀ W, (Instr.sliceAt 22 (.slice (some ad) n c) (some (.int .i64 17)) none none).run Try.prog W = .ok (.slice (cutA (some ad) 17 c 1) (n - 17) (c - 17)) W := fun W => fromB (some ad) n c 17 (by omega) (by omega) W
      clear r17
      have r19 := hr.midA (k := 19) (m := n) (cap := c) (by omega) (by omega) hc
      rw [← bvs_drop, ← bvs_take, List.take_of_length_le (by rw [List.length_drop, HL.out]; omega)] at r19
      have R19 := Lib.hid r19
      have s19 : ∀ W, (Instr.sliceAt 22 (.slice (some ad) n c) (some (.int .i64 19)) none none).run Try.prog W = .ok (.slice (cutA (some ad) 19 c 1) (n - 19) (c - 19)) W := fun W => fromB (some ad) n c 19 (by omega) (by omega) W
      clear r19
      clear hr h9 h41
      have OK := Lib.hid (show hOk p n = phArg (at8 p 0) (hSt p) (hBa p) (hHv p) by unfold hOk; rw [decide_eq_true (show 19 ≤ n ∧ n ≤ 419 by omega), Bool.true_and])
      have i0 : 0 < n := by omega
      go_enter Try.func28, Try.ntmps28
      go_upto_region 3 with fail
      have hB0 : Below w.heap.size w (w.alloc (.cells #[.int .u8 0, .int .i64 0, .int .i64 0, .int .i64 0, .slice none 0 0] 50)) := Ba (Below.refl _ _)
      have hz0 : (w.alloc (.cells #[.int .u8 0, .int .i64 0, .int .i64 0, .int .i64 0, .slice none 0 0] 50)).heap.size = w.heap.size + 1 := by simp
      have z1 : Blk (w.alloc (.cells #[.int .u8 0, .int .i64 0, .int .i64 0, .int .i64 0, .slice none 0 0] 50)) w.heap.size 50 #[.int .u8 0, .int .i64 0, .int .i64 0, .int .i64 0, .slice none 0 0] := Blk.new _ _ _
      generalize w.alloc (.cells #[.int .u8 0, .int .i64 0, .int .i64 0, .int .i64 0, .slice none 0 0] 50) = W0 at *
      have HZ := Lib.hid hz0
      have hblt : ad.block < W0.heap.size := by omega
      clear hz0
      have mk : ∀ w' : World, Below W0.heap.size W0 w' → w'.cell? ad = some (.int .u8 (at8 p 0)) ∧ Below W0.heap.size W0 w' := fun w' h => ⟨(h.cell (p := ad) hblt).trans ((hB0.cell (p := ad) hbl).trans q0), h⟩
      have MK := Lib.hid mk
      clear mk q0
      go_cut [4] (fun v wx => ∃ (g : Nat) (A3 : Option Addr) (c3 : Nat), v = .pointer (some ⟨g, 0, none⟩) ∧ Blk wx g 50 #[.int .u8 (at8 p 0), .int .i64 (hSt p), .int .i64 (hBa p), .int .i64 (hHv p), .slice A3 (n - 19) c3] ∧ W0.heap.size ≤ g ∧
        wx.ownsRow W0.heap.size 5 1 (.slice A3 (n - 19) c3) (n - 19) (bvs (p.drop 19)) ∧ Below W0.heap.size W0 wx)
      case first =>
        have hd : Below W0.heap.size W0 W0.drew := (Below.refl _ _).drew
        go_region_held3 (fun w' => w'.cell? ad = some (.int .u8 (at8 p 0)) ∧ Below W0.heap.size W0 w')
          (first
            | with_reducible assumption
            | exact MK.out _ (by repeat (first | with_reducible assumption | with_reducible exact Below.refl _ _ | with_reducible refine Below.drew ?_ | with_reducible refine Ba ?_ | with_reducible refine Below.setCell ?_ (by simp) _)))
          (first
            | (go_at_call 55; rcases ‹_ ∧ Below _ _ _› with ⟨_, sB⟩; first
              | ((with_reducible refine (get8v _ _ _ _ _ _ (hSt_eq p) (by omega) (by omega) (R1.out.go (Bt hB0 sB))).mono ?_); rintro e w3 ⟨rfl, rfl⟩)
              | ((with_reducible refine (get8v _ _ _ _ _ _ (hBa_eq p) (by omega) (by omega) (R9.out.go (Bt hB0 sB))).mono ?_); rintro e w3 ⟨rfl, rfl⟩)
              | ((with_reducible refine (get2v _ _ _ _ _ _ (hHv_eq p) (by omega) (by omega) (R17.out.go (Bt hB0 sB))).mono ?_); rintro e w3 ⟨rfl, rfl⟩))
            | (go_at_call 56; rcases ‹_ ∧ Below _ _ _› with ⟨_, sB⟩; refine (clone_any _ _ _ _ _ (bvs_one _) (by omega) (R19.out.go (Bt hB0 sB))).mono ?_; rintro e w3 ⟨A3, c3, rfl, ho3, hb3⟩; have hw3 : Below W0.heap.size W0 w3 := Bt sB hb3; have hz4 : W0.heap.size ≤ w3.heap.size := hw3.size; have HB3 := Lib.hid hb3; obtain ⟨hc3, hf3, hz3⟩ := bcell hb3; have HO3 := Lib.hid (ownsRow_mono ho3 sB.size); clear ho3 hb3; try simp at hz3)
            | fail)
        all_goals
          go_wp2_with fail
          go_meet
          first
            | (refine ⟨w3.heap.size, A3, c3, by with_reducible rfl, ?_⟩; exact ⟨Blk.new _ _ _, hz4, own_al HO3.out, Ba hw3⟩)
            | (refine ⟨W0.heap.size, A3, c3, by with_reducible rfl, ?_⟩
               have b1 : Blk w3 W0.heap.size 50 #[.int .u8 0, .int .i64 0, .int .i64 0, .int .i64 0, .slice none 0 0] := Blk.go (Blk.drew (Blk.new' rfl)) HB3.out
               exact ⟨((((b1.set_ 0 _).set_ 1 _).set_ 2 _).set_ 3 _).set_ 4 _, Nat.le_refl _, own_set5 HO3.out b1 (by decide) _ _ _ _ _, set5' hw3 (Nat.le_refl _)⟩)
      case rest =>
        obtain ⟨g, A3, c3, rfl, hblk, hg0, hown, hB⟩ := hcut
        have HO := Lib.hid hown
        have hcl := own_le hown
        have HB := Lib.hid hB
        have HK := Lib.hid hblk
        have hglt := hblk.lt
        have kc := hblk.cell
        have hI1 : I64 (hSt p) := numI_i64 _
        have hI2 : I64 (hBa p) := numI_i64 _
        have hI3 : I64 (hHv p) := numI_i64 _
        have hU : U8 (at8 p 0) := ⟨hat.1, by omega⟩
        have H1 := Lib.hid hI1
        have H2 := Lib.hid hI2
        have H3 := Lib.hid hI3
        have HU := Lib.hid hU
        clear hown hblk hB s1 s9 s17 s19 hI1 hI2 hI3 hU
        go_upto_region 5 with (first
          | (go_at_call 25; refine (puthello1_any _ _ _ _ _ _ _ _ _ HU.out H1.out H2.out H3.out (by omega) hcl (Reads.of_own HO.out)).mono ?_; rintro e w4 ⟨A4, n4, c4, rfl, -, hc4, hn4, hb4⟩))
        have hbk4 := HK.out.below hb4 hglt
        have HO4 := Lib.hid (ownsRow_below HO.out hb4 (Nat.le_refl _))
        have z4 := z1.below (HB.out.trans (hb4.mono HB.out.size)) (by have := HZ.out; omega)
        have hB4 := Lib.hid (Bt (Bt hB0 HB.out) hb4)
        have k4 := hbk4.cell
        have f5 := hbk4.frozen
        have d4 := z4.cell
        have f4 := z4.frozen
        clear kc hb4
        have P1 := Lib.hid (phE_small (at8 p 0) (hSt p) (hBa p) (hHv p) (n - 19) (by omega))
        cases hv : phArg (at8 p 0) (hSt p) (hBa p) (hHv p) with
        | false =>
          have F := Lib.hid (show hOk p n = false by rw [OK.out, hv])
          have e1 : (phE (at8 p 0) (hSt p) (hBa p) (hHv p) (n - 19) != 0) = true := by rw [P1.out, hv]; rfl
          clear hv
          go_wp2
          have t0 : _ = some (Value.int .u8 0) := ((z4.set_ 0 (.int .u8 0)).cell 0).trans (by simp)
          have t1 : _ = some (Value.int .i64 0) := (((z4.set_ 0 (.int .u8 0)).set_ 1 (.int .i64 0)).cell 1).trans (by simp)
          have t2 : _ = some (Value.int .i64 0) := ((((z4.set_ 0 (.int .u8 0)).set_ 1 (.int .i64 0)).set_ 2 (.int .i64 0)).cell 2).trans (by simp)
          have t3 : _ = some (Value.int .i64 0) := (((((z4.set_ 0 (.int .u8 0)).set_ 1 (.int .i64 0)).set_ 2 (.int .i64 0)).set_ 3 (.int .i64 0)).cell 3).trans (by simp)
          have t4 : _ = some (Value.slice none 0 0) := ((((((z4.set_ 0 (.int .u8 0)).set_ 1 (.int .i64 0)).set_ 2 (.int .i64 0)).set_ 3 (.int .i64 0)).set_ 4 (.slice none 0 0)).cell 4).trans (by simp)
          refine bodyPost_ret (v := .tuple #[.agg #[.int .u8 0, .int .i64 0, .int .i64 0, .int .i64 0, .slice none 0 0], .int .i64 4]) (by simp [results, Try.results28, go_sem, t0, t1, t2, t3, t4]) rfl ?_
          exact getHello_no F.out rfl (set5' hB4.out (Nat.le_refl _))
        | true =>
          have F := Lib.hid (show hOk p n = true by rw [OK.out, hv])
          have e1 : (phE (at8 p 0) (hSt p) (hBa p) (hHv p) (n - 19) != 0) = false := by rw [P1.out, hv]; rfl
          clear hv
          go_wp2
          have t0 : _ = some (Value.int .u8 (at8 p 0)) := ((z4.set_ 0 (.int .u8 (at8 p 0))).cell 0).trans (by simp)
          have t1 : _ = some (Value.int .i64 (hSt p)) := (((z4.set_ 0 (.int .u8 (at8 p 0))).set_ 1 (.int .i64 (hSt p))).cell 1).trans (by simp)
          have t2 : _ = some (Value.int .i64 (hBa p)) := ((((z4.set_ 0 (.int .u8 (at8 p 0))).set_ 1 (.int .i64 (hSt p))).set_ 2 (.int .i64 (hBa p))).cell 2).trans (by simp)
          have t3 : _ = some (Value.int .i64 (hHv p)) := (((((z4.set_ 0 (.int .u8 (at8 p 0))).set_ 1 (.int .i64 (hSt p))).set_ 2 (.int .i64 (hBa p))).set_ 3 (.int .i64 (hHv p))).cell 3).trans (by simp)
          have t4 : _ = some (Value.slice A3 (n - 19) c3) := ((((((z4.set_ 0 (.int .u8 (at8 p 0))).set_ 1 (.int .i64 (hSt p))).set_ 2 (.int .i64 (hBa p))).set_ 3 (.int .i64 (hHv p))).set_ 4 (.slice A3 (n - 19) c3)).cell 4).trans (by simp)
          refine bodyPost_ret (v := .tuple #[.agg #[.int .u8 (at8 p 0), .int .i64 (hSt p), .int .i64 (hBa p), .int .i64 (hHv p), .slice A3 (n - 19) c3], .int .i64 0]) (by simp [results, Try.results28, go_sem, t0, t1, t2, t3, t4]) rfl ?_
          refine getHello_yes F.out rfl (Reads.of_own (base := w.heap.size) (e := 5) (c := c3) ?_) hcl (set5' hB4.out (Nat.le_refl _))
          have o1 := ownsRow_mono HO4.out (show w.heap.size ≤ W0.heap.size by have := HZ.out; omega)
          exact own_set5 o1 z4 (by decide) _ _ _ _ _
end Go.Proofs.Ytgnajpoebooafaa
