/-
The bytes that a machine is stepped with: the contracts of both Pack. Conditions: lengths of at most 1000000.
-/
import Derived.Test.YtgnajpoebooafaaAgPut
import Derived.Test.YtgnajpoebooafaaAgSpec
namespace Go.Proofs.Ytgnajpoebooafaa
set_option linter.unusedVariables false
set_option linter.unusedSimpArgs false
set_option maxRecDepth 100000
open Go.RowKit
theorem own_one (w : World) (e : TypeId) (v : Value) : (w.alloc (.cells #[v] e)).ownsRow w.heap.size e 1 (.slice (some ⟨w.heap.size, 0, none⟩) 1 1) 1 [v] := World.ownsRow_lit w #[v] 1 (Nat.le_refl _) (by decide) (by simp)
theorem bvs_cons (f : UInt8) (l : List UInt8) : bvs (f :: l) = .int .u8 (f.toNat : Int) :: bvs l := rfl
set_option maxHeartbeats 1000000 in
theorem add_no (A2 : Option Addr) (n2 c2 : Nat) (b : Int) (g : Nat) (w : World) :
    Calls Try.prog 52 #[.slice A2 n2 c2, .bool false, .int .u8 b, .pointer (some ⟨g, 0, none⟩)] w fun e w' => e = .returned (.tuple #[]) ∧ w = w' := by
  go_enter Try.func52, Try.ntmps52
  go_wp2
  go_end0
  exact ⟨rfl, rfl⟩
set_option maxHeartbeats 1000000 in
theorem add_yes (base : Nat) (A : Option Addr) (n c : Nat) (f r : UInt8) (l : List UInt8) (A2 : Option Addr) (n2 c2 : Nat) (l2 : List UInt8) (b : Int) (g : Nat) (w : World) (hn : n ≤ 100000) (hn2 : n2 ≤ 400) (hor : bits .or .u8 (f.toNat : Int) b = r.toNat)
    (hbase : base ≤ g) (hblk : Blk w g 22 #[.slice A n c]) (hown : w.ownsRow base 5 1 (.slice A n c) n (bvs (f :: l))) (hr2 : Reads w base 1 A2 n2 (bvs l2)) :
    Calls Try.prog 52 #[.slice A2 n2 c2, .bool true, .int .u8 b, .pointer (some ⟨g, 0, none⟩)] w fun e w' => e = .returned (.tuple #[]) ∧
      ∃ A' c', Blk w' g 22 #[.slice A' (n + (2 + n2)) c'] ∧ w'.ownsRow base 5 1 (.slice A' (n + (2 + n2)) c') (n + (2 + n2)) (bvs (r :: (l ++ inB l2 true))) ∧ Below base w w' := by
  have hn1 : 0 < n := by have := hown.1; rw [bvs_length] at this; simp at this; omega
  obtain ⟨q, rfl, hq1, hq2, hqc⟩ := ownsRow_cells hown hn1
  have q0 : w.cell? ⟨q, 0, none⟩ = some (.int .u8 (f.toNat : Int)) := by rw [hqc 0 (by omega)]; rfl
  have qf := hown.frozenAt 0
  obtain ⟨ho1, hg1⟩ := hown.stored 0 (.int .u8 (r.toNat : Int))
  have hqg : q ≠ g := by
    have := own_blk_ne hown hblk (by decide)
    simpa [Value.ownBlock] using this
  have hblk1 : Blk (w.setCell ⟨q, 0, none⟩ (.int .u8 (r.toNat : Int))) g 22 #[.slice (some ⟨q, 0, none⟩) n c] := hblk.far (by simpa using Ne.symm hqg) _
  have hb1 : Below base w (w.setCell ⟨q, 0, none⟩ (.int .u8 (r.toNat : Int))) := (Below.refl _ _).setCell hq1 _
  have k0 := hblk.cell 0
  have k1 := hblk1.cell 0
  simp only [List.getElem?_toArray, List.getElem?_cons_zero] at k0 k1
  have HO1 := Lib.hid ho1
  have HB1 := Lib.hid hb1
  have HK1 := Lib.hid hblk1
  have hgl := hblk.lt
  have HS := Lib.hid (show l2.length = n2 by have := hr2.1; rw [bvs_length] at this; omega)
  have HR2 := Lib.hid hr2
  clear ho1 hb1 hg1 hblk1 hown hqc hr2
  have hqne : ¬ g = q := fun h => hqg h.symm
  go_enter Try.func52, Try.ntmps52
  go_wp2_with fail
  refine (put_any base (some ⟨q, 0, none⟩) n c _ _ 2 _ (I64.of (by omega) (by omega)) (by omega) (by omega) (by have := hblk.lt; simp; omega) HO1.out).mono ?_
  rintro e w1 ⟨A3, c3, rfl, ho3, hg3, hat3⟩
  have hb3 := HB1.out.trans (grown_below HO1.out (by simp; omega) hg3)
  have hk3 : Blk w1 g 22 #[.slice (some ⟨q, 0, none⟩) n c] := HK1.out.grown hg3 (by simpa using hqne)
  have hw1 : w.heap.size ≤ w1.heap.size := by have := hg3.size; simpa using this
  go_wp2_with (at_builtin; refine stopHere ?_)
  refine goOn ?_
  refine appB rfl (.tmp 17) (.tmp 18) rfl rfl ho3 rfl (HR2.out.below hb3) (bvs_one _) (by omega) (by omega) ?_
  intro A4 c4 w4 ho4 hb4 hg4 hat4
  have hk4 : Blk w4 g 22 #[.slice (some ⟨q, 0, none⟩) n c] := hk3.grown hg4 (by
    have := own_blk_ne ho3 hk3 (by decide)
    rw [ownBlock_slice] at this
    exact fun h => this h.symm)
  have kc4 := hk4.cell
  have kf4 := hk4.frozen
  go_wp2
  go_end0
  have hin : inB l2 true = lowB n2 2 ++ l2 := by simp [inB, HS.out]
  refine ⟨rfl, A4, c4, ?_, ?_, ?_⟩
  · rw [← Nat.add_assoc]; exact hk4.set_ 0 _
  · rw [← Nat.add_assoc]
    have e : (bvs (f :: l)).set 0 (.int .u8 (r.toNat : Int)) ++ bvs (lowB (n2 : Int) 2) ++ bvs l2 = bvs (r :: (l ++ inB l2 true)) := by
      rw [hin, bvs_cons, bvs_cons, bvs_append, bvs_append]; simp
    rw [e] at ho4
    exact own_setCell ho4 hk4 (by decide) 0 _
  · exact (hb3.trans hb4).setCell hbase _
theorem packXs {w : World} {base : Nat} {v : Value} {n : Nat} {xs : List Value} (l : List UInt8) (h : w.ownsRow base 5 1 v n xs) (e : xs = bvs l) : w.ownsRow base 5 1 v n (bvs l) := e ▸ h
def PackGives (w : World) (a : List UInt8) (ia : Bool) (b : List UInt8) (ib : Bool) (e : Ending) (w' : World) : Prop :=
  ∃ A' n' c', e = .returned (.tuple #[.slice A' n' c', .int .i64 (packE a.length ia b.length ib)]) ∧ Reads w' w'.heap.size 1 A' n' (bvs (packD a ia b ib)) ∧ n' ≤ c' ∧ n' ≤ 1000 ∧ Below w.heap.size w w'
theorem packGives_bad {w w' : World} {a : List UInt8} {ia : Bool} {b : List UInt8} {ib : Bool} {e : Ending} (h : packBad a.length ia b.length ib = true) (he : e = .returned (.tuple #[.slice none 0 0, .int .i64 3])) (hb : Below w.heap.size w w') : PackGives w a ia b ib e w' :=
  ⟨none, 0, 0, by simp [he, packE, h], by simpa [packD, h, bvs] using Reads.none_, by omega, by omega, hb⟩
theorem packGives_ok {w w' : World} {a : List UInt8} {ia : Bool} {b : List UInt8} {ib : Bool} {e : Ending} {A' : Option Addr} {n' c' base : Nat} {l : List UInt8} (h : packBad a.length ia b.length ib = false) (he : e = .returned (.tuple #[.slice A' n' c', .int .i64 0]))
    (ho : w'.ownsRow base 5 1 (.slice A' n' c') n' (bvs l)) (hl : l = flagB ia ib :: (inB a ia ++ inB b ib)) (hn : n' ≤ 1000) (hb : Below w.heap.size w w') : PackGives w a ia b ib e w' :=
  ⟨A', n', c', by simp [he, packE, h], by subst hl; simpa [packD, h] using Reads.of_own ho, own_le ho, hn, hb⟩
set_option maxHeartbeats 1000000 in
theorem pack1_any (A1 : Option Addr) (n1 c1 : Nat) (l1 : List UInt8) (ia : Bool) (A2 : Option Addr) (n2 c2 : Nat) (l2 : List UInt8) (ib : Bool) (w : World) (h1 : n1 ≤ 1000000) (h2 : n2 ≤ 1000000)
    (hr1 : Reads w w.heap.size 1 A1 n1 (bvs l1)) (hr2 : Reads w w.heap.size 1 A2 n2 (bvs l2)) : Calls Try.prog 15 #[.slice A1 n1 c1, .bool ia, .slice A2 n2 c2, .bool ib] w (PackGives w l1 ia l2 ib) := by
  have e1 : l1.length = n1 := by have := hr1.1; rw [bvs_length] at this; omega
  have e2 : l2.length = n2 := by have := hr2.1; rw [bvs_length] at this; omega
  have HR1 := Lib.hid hr1
  have HR2 := Lib.hid hr2
  clear hr1 hr2
  cases hv : packBad l1.length ia l2.length ib with
  | true =>
    have HV := Lib.hid hv
    rw [e1, e2] at hv
    unfold packBad at hv
    clear e1 e2
    go_enter Try.func15, Try.ntmps15
    cases ia <;> cases ib <;> simp at hv
    all_goals go_wp2
    all_goals go_ret2
    all_goals exact packGives_bad HV.out rfl (Below.refl _ _)
  | false =>
    have HV := Lib.hid hv
    rw [e1, e2] at hv
    unfold packBad at hv
    clear e1 e2
    go_enter Try.func15, Try.ntmps15
    cases ia <;> cases ib <;> simp at hv
    · -- 0 0
      go_wp2_with fail
      refine (add_no _ _ _ _ _ _).mono ?_
      rintro e w1 ⟨rfl, rfl⟩
      go_wp2_with fail
      refine (add_no _ _ _ _ _ _).mono ?_
      rintro e w2 ⟨rfl, rfl⟩
      have HO := Lib.hid (own_one w 5 (.int .u8 0))
      have HB := fun o1 o2 => Lib.hid (Ba (Ba (Below.refl w.heap.size w)) : Below w.heap.size w ((w.alloc o1).alloc o2))
      go_wp2
      go_ret2
      exact packGives_ok (l := [0]) HV.out rfl (HO.out.alloc _) (by simp [inB, flagB]) (by omega) (HB _ _).out
    · -- 0 1
      go_wp2_with fail
      refine (add_no _ _ _ _ _ _).mono ?_
      rintro e w1 ⟨rfl, rfl⟩
      go_wp2_with fail
      refine (add_yes w.heap.size _ 1 _ 0 2 [] _ _ _ _ _ _ _ (by omega) (by omega) (by decide) (by simp) (Blk.new' (by simp)) (World.ownsRow_lit w #[.int .u8 0] 1 (Nat.le_refl _) (by decide) rfl |>.alloc _) (HR2.out.below (Ba (Ba (Below.refl _ _))))).mono ?_
      rintro e w2 ⟨rfl, A2', c2', hk2, ho2, hb2⟩
      have hB2 : Below w.heap.size w w2 := ((Ba (Ba (Below.refl _ _)))).trans hb2
      have kc := hk2.cell
      have HO := Lib.hid ho2
      have HB := Lib.hid hB2
      clear ho2 hk2 hb2 hB2
      go_wp2
      go_ret2
      exact packGives_ok HV.out rfl HO.out (by simp [inB, flagB]) (by omega) HB.out
    · -- 1 0
      go_wp2_with fail
      refine (add_yes w.heap.size _ 1 _ 0 1 [] _ _ _ _ _ _ _ (by omega) (by omega) (by decide) (by simp) (Blk.new' (by simp)) (World.ownsRow_lit w #[.int .u8 0] 1 (Nat.le_refl _) (by decide) rfl |>.alloc _) (HR1.out.below (Ba (Ba (Below.refl _ _))))).mono ?_
      rintro e w1 ⟨rfl, A1', c1', hk1, ho1, hb1⟩
      have hB1 : Below w.heap.size w w1 := ((Ba (Ba (Below.refl _ _)))).trans hb1
      go_wp2_with fail
      refine (add_no _ _ _ _ _ _).mono ?_
      rintro e w2 ⟨rfl, rfl⟩
      have kc := hk1.cell
      have HO := Lib.hid ho1
      have HB := Lib.hid hB1
      clear ho1 hk1 hb1 hB1
      go_wp2
      go_ret2
      exact packGives_ok HV.out rfl HO.out (by simp [inB, flagB]) (by omega) HB.out
    · -- 1 1
      go_wp2_with fail
      refine (add_yes w.heap.size _ 1 _ 0 1 [] _ _ _ _ _ _ _ (by omega) (by omega) (by decide) (by simp) (Blk.new' (by simp)) (World.ownsRow_lit w #[.int .u8 0] 1 (Nat.le_refl _) (by decide) rfl |>.alloc _) (HR1.out.below (Ba (Ba (Below.refl _ _))))).mono ?_
      rintro e w1 ⟨rfl, A1', c1', hk1, ho1, hb1⟩
      have hB1 : Below w.heap.size w w1 := ((Ba (Ba (Below.refl _ _)))).trans hb1
      go_wp2_with fail
      refine (add_yes w.heap.size _ _ _ 1 3 _ _ _ _ _ _ _ _ (by omega) (by omega) (by decide) (by simp) hk1 ho1 (HR2.out.below hB1)).mono ?_
      rintro e w2 ⟨rfl, A2', c2', hk2, ho2, hb2⟩
      have hB2 := hB1.trans hb2
      have kc := hk2.cell
      have HO := Lib.hid ho2
      have HB := Lib.hid hB2
      clear ho2 hk2 hb2 hB2
      go_wp2
      go_ret2
      exact packGives_ok HV.out rfl HO.out (by simp [inB, flagB]) (by omega) HB.out
set_option maxHeartbeats 1000000 in
theorem pack2_any (A1 : Option Addr) (n1 c1 : Nat) (l1 : List UInt8) (ia : Bool) (A2 : Option Addr) (n2 c2 : Nat) (l2 : List UInt8) (ib : Bool) (w : World) (h1 : n1 ≤ 1000000) (h2 : n2 ≤ 1000000)
    (hr1 : Reads w w.heap.size 1 A1 n1 (bvs l1)) (hr2 : Reads w w.heap.size 1 A2 n2 (bvs l2)) : Calls Try.prog 16 #[.slice A1 n1 c1, .bool ia, .slice A2 n2 c2, .bool ib] w (PackGives w l1 ia l2 ib) := by
  have e1 : l1.length = n1 := by have := hr1.1; rw [bvs_length] at this; omega
  have e2 : l2.length = n2 := by have := hr2.1; rw [bvs_length] at this; omega
  have HR1 := Lib.hid hr1
  have HR2 := Lib.hid hr2
  clear hr1 hr2
  cases hv : packBad l1.length ia l2.length ib with
  | true =>
    have HV := Lib.hid hv
    rw [e1, e2] at hv
    unfold packBad at hv
    clear e1 e2
    go_enter Try.func16, Try.ntmps16
    cases ia <;> cases ib <;> simp at hv
    all_goals go_wp2
    all_goals go_ret2
    all_goals exact packGives_bad HV.out rfl (Below.refl _ _)
  | false =>
    have HV := Lib.hid hv
    rw [e1, e2] at hv
    unfold packBad at hv
    have E1 := Lib.hid e1
    have E2 := Lib.hid e2
    clear e1 e2
    go_enter Try.func16, Try.ntmps16
    cases ia <;> cases ib <;> simp at hv
    · -- 0 0
      go_wp2
      go_ret2
      exact packGives_ok (l := [0]) HV.out rfl (packXs _ (own_one w 5 (.int .u8 0)) (by simp [bvs_cons, bvs_append, bvs_nil])) (by simp [inB, flagB, E1.out, E2.out]; try rfl) (by omega) (Ba (Below.refl _ _) : Below w.heap.size w (w.alloc (.cells #[.int .u8 0] 5)))
    · -- 0 1
      go_wp2_with fail
      refine (low_any (n2 : Int) 2 _ (by omega)).mono ?_
      rintro e wL1 ⟨AL1, cL1, rfl, hoL1, hbL1⟩
      have HC1 := Lib.hid (own_go (own_one w 5 (.int .u8 2)) hbL1)
      have HL1 := Lib.hid (Reads.of_own hoL1)
      have hBL1 := Below.trans (Ba (Below.refl _ _) : Below w.heap.size w (w.alloc (.cells #[.int .u8 2] 5))) (hbL1.mono (Below.size (Ba (Below.refl _ _) : Below w.heap.size w (w.alloc (.cells #[.int .u8 2] 5)))))
      clear hoL1 hbL1
      go_wp2_with (at_builtin; refine stopHere ?_)
      refine goOn ?_
      refine appB rfl (.tmp 44) (.tmp 47) rfl rfl HC1.out rfl HL1.out (bvs_one _) (by omega) hBL1.size ?_
      intro AM1 cM1 wM1 hoM1 hbM1 hgM1 hatM1
      have HM1 := Lib.hid hoM1
      have hBM1 := hBL1.trans hbM1
      clear hoM1 hbM1 hgM1 hatM1
      go_wp2_with (at_builtin; refine stopHere ?_)
      refine goOn ?_
      refine appB rfl (.tmp 49) (.tmp 50) rfl rfl HM1.out rfl (HR2.out.below hBM1) (bvs_one _) (by omega) hBM1.size ?_
      intro AN1 cN1 wN1 hoN1 hbN1 hgN1 hatN1
      have HN1 := Lib.hid hoN1
      have hBN1 := hBM1.trans hbN1
      clear hoN1 hbN1 hgN1 hatN1
      go_wp2
      go_ret2
      exact packGives_ok (l := 2 :: (lowB n2 2 ++ l2)) HV.out rfl (packXs _ HN1.out (by simp [bvs_cons, bvs_append, bvs_nil])) (by simp [inB, flagB, E1.out, E2.out]; try rfl) (by omega) hBN1
    · -- 1 0
      go_wp2_with fail
      refine (low_any (n1 : Int) 2 _ (by omega)).mono ?_
      rintro e wL1 ⟨AL1, cL1, rfl, hoL1, hbL1⟩
      have HC1 := Lib.hid (own_go (own_one w 5 (.int .u8 1)) hbL1)
      have HL1 := Lib.hid (Reads.of_own hoL1)
      have hBL1 := Below.trans (Ba (Below.refl _ _) : Below w.heap.size w (w.alloc (.cells #[.int .u8 1] 5))) (hbL1.mono (Below.size (Ba (Below.refl _ _) : Below w.heap.size w (w.alloc (.cells #[.int .u8 1] 5)))))
      clear hoL1 hbL1
      go_wp2_with (at_builtin; refine stopHere ?_)
      refine goOn ?_
      refine appB rfl (.tmp 35) (.tmp 38) rfl rfl HC1.out rfl HL1.out (bvs_one _) (by omega) hBL1.size ?_
      intro AM1 cM1 wM1 hoM1 hbM1 hgM1 hatM1
      have HM1 := Lib.hid hoM1
      have hBM1 := hBL1.trans hbM1
      clear hoM1 hbM1 hgM1 hatM1
      go_wp2_with (at_builtin; refine stopHere ?_)
      refine goOn ?_
      refine appB rfl (.tmp 40) (.tmp 41) rfl rfl HM1.out rfl (HR1.out.below hBM1) (bvs_one _) (by omega) hBM1.size ?_
      intro AN1 cN1 wN1 hoN1 hbN1 hgN1 hatN1
      have HN1 := Lib.hid hoN1
      have hBN1 := hBM1.trans hbN1
      clear hoN1 hbN1 hgN1 hatN1
      go_wp2
      go_ret2
      exact packGives_ok (l := 1 :: (lowB n1 2 ++ l1)) HV.out rfl (packXs _ HN1.out (by simp [bvs_cons, bvs_append, bvs_nil])) (by simp [inB, flagB, E1.out, E2.out]; try rfl) (by omega) hBN1
    · -- 1 1
      go_wp2_with fail
      refine (low_any (n1 : Int) 2 _ (by omega)).mono ?_
      rintro e wL1 ⟨AL1, cL1, rfl, hoL1, hbL1⟩
      have HC1 := Lib.hid (own_go (own_one w 5 (.int .u8 3)) hbL1)
      have HL1 := Lib.hid (Reads.of_own hoL1)
      have hBL1 := Below.trans (Ba (Below.refl _ _) : Below w.heap.size w (w.alloc (.cells #[.int .u8 3] 5))) (hbL1.mono (Below.size (Ba (Below.refl _ _) : Below w.heap.size w (w.alloc (.cells #[.int .u8 3] 5)))))
      clear hoL1 hbL1
      go_wp2_with (at_builtin; refine stopHere ?_)
      refine goOn ?_
      refine appB rfl (.tmp 35) (.tmp 38) rfl rfl HC1.out rfl HL1.out (bvs_one _) (by omega) hBL1.size ?_
      intro AM1 cM1 wM1 hoM1 hbM1 hgM1 hatM1
      have HM1 := Lib.hid hoM1
      have hBM1 := hBL1.trans hbM1
      clear hoM1 hbM1 hgM1 hatM1
      go_wp2_with (at_builtin; refine stopHere ?_)
      refine goOn ?_
      refine appB rfl (.tmp 40) (.tmp 41) rfl rfl HM1.out rfl (HR1.out.below hBM1) (bvs_one _) (by omega) hBM1.size ?_
      intro AN1 cN1 wN1 hoN1 hbN1 hgN1 hatN1
      have HN1 := Lib.hid hoN1
      have hBN1 := hBM1.trans hbN1
      clear hoN1 hbN1 hgN1 hatN1
      go_wp2_with fail
      refine (low_any (n2 : Int) 2 _ (by omega)).mono ?_
      rintro e wL2 ⟨AL2, cL2, rfl, hoL2, hbL2⟩
      have HC2 := Lib.hid (own_go HN1.out hbL2)
      have HL2 := Lib.hid (Reads.of_own hoL2)
      have hBL2 := Below.trans hBN1 (hbL2.mono (Below.size hBN1))
      clear hoL2 hbL2
      go_wp2_with (at_builtin; refine stopHere ?_)
      refine goOn ?_
      refine appB rfl (.tmp 44) (.tmp 47) rfl rfl HC2.out rfl HL2.out (bvs_one _) (by omega) hBL2.size ?_
      intro AM2 cM2 wM2 hoM2 hbM2 hgM2 hatM2
      have HM2 := Lib.hid hoM2
      have hBM2 := hBL2.trans hbM2
      clear hoM2 hbM2 hgM2 hatM2
      go_wp2_with (at_builtin; refine stopHere ?_)
      refine goOn ?_
      refine appB rfl (.tmp 49) (.tmp 50) rfl rfl HM2.out rfl (HR2.out.below hBM2) (bvs_one _) (by omega) hBM2.size ?_
      intro AN2 cN2 wN2 hoN2 hbN2 hgN2 hatN2
      have HN2 := Lib.hid hoN2
      have hBN2 := hBM2.trans hbN2
      clear hoN2 hbN2 hgN2 hatN2
      go_wp2
      go_ret2
      exact packGives_ok (l := 3 :: ((lowB n1 2 ++ l1) ++ (lowB n2 2 ++ l2))) HV.out rfl (packXs _ HN2.out (by simp [bvs_cons, bvs_append, bvs_nil])) (by simp [inB, flagB, E1.out, E2.out]; try rfl) (by omega) hBN2
end Go.Proofs.Ytgnajpoebooafaa
