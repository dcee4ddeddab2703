/-
The machine. Conditions: each lemma's own.
-/
import Derived.Test.YtpleflcfaecojaaGreatC8
namespace Go.Proofs.YtpleflcfaecojaaGreat
set_option linter.unusedVariables false
set_option linter.unusedSimpArgs false
set_option maxRecDepth 100000
open Go.RowKit
structure Mc where
  sum : Int
  count : Int
  pad : Int
def Mc.e (m : Mc) : Int × Int × Int := (m.sum, m.count, m.pad)
theorem o85_eq (n : Int) : o85 n 8 = some (putB n 8) := by
  unfold o85
  refine loop_from (fun k => ((n, (8 : Int)), ((k : Nat) : Int), putB n k)) 8 rfl (fun k hk => ?_) ?_ (by omega)
  · unfold o85_b0
    refine (cndT (dt (by show (k : Int) < 8; omega))).trans ((gdT (dt (by show (0 : Int) ≤ IntKind.i64.wrap (8 * (k : Int)); rw [wr64 (by omega)]; omega))).trans ((gdT (dt (by show ((putB n k).length + 1) * 1 ≤ 140737488355328; rw [putB_len]; omega))).trans ?_))
    dsimp only
    rw [show IntKind.i64.wrap ((k : Int) + 1) = (k : Int) + 1 from wr64 (by omega), show IntKind.i64.wrap (8 * (k : Int)) = 8 * (k : Int) from wr64 (by omega), byte_u64 n k (by omega), putB_succ]
    rfl
  · unfold o85_b0
    refine (cndF (df (by show ¬ ((8 : Nat) : Int) < 8; decide))).trans ?_
    exact dnS _
def padB (s : Int) (i : Nat) : UInt8 := u8 (IntKind.u8.wrap (IntKind.u8.wrap (shrK .u64 s (IntKind.i64.wrap (Int.tmod (i : Int) 8 * 8))) + IntKind.u8.wrap (i : Int)))
def saveB (m : Mc) : List UInt8 := putB (IntKind.i64.wrap m.sum) 8 ++ putB m.count 8 ++ (List.range m.pad.toNat).map (padB m.sum)
theorem saveB_len (m : Mc) : (saveB m).length = 16 + m.pad.toNat := by simp [saveB, putB_len]; omega
theorem o48_eq {m : Mc} (h0 : 0 ≤ m.pad) (h1 : m.pad ≤ 1000000) : o48 m.e = some (saveB m) := by
  unfold o48
  refine (bdS (o85_eq (IntKind.i64.wrap m.sum))).trans ((bdS (o85_eq m.count)).trans ((gdT (dt (by rw [putB_len, putB_len]; decide))).trans ?_))
  refine loop_from (fun i => (((i : Nat) : Int), m.e, putB (IntKind.i64.wrap m.sum) 8 ++ putB m.count 8 ++ (List.range i).map (padB m.sum))) m.pad.toNat (by simp) (fun i hi => ?_) ?_ (by omega)
  · unfold o48_b0
    refine (cndT (dt (by show (i : Int) < m.pad; omega))).trans ((gdT (dt ?_)).trans ((gdT (dt ?_)).trans ?_))
    · show (0 : Int) ≤ IntKind.i64.wrap (Int.tmod (i : Int) 8 * 8)
      rw [Int.tmod_eq_emod_of_nonneg (by omega), wr64 (by omega)]
      omega
    · show ((putB (IntKind.i64.wrap m.sum) 8 ++ putB m.count 8 ++ (List.range i).map (padB m.sum)).length + 1) * 1 ≤ 140737488355328
      simp [putB_len]; omega
    · dsimp only
      rw [show IntKind.i64.wrap ((i : Int) + 1) = (i : Int) + 1 from wr64 (by omega), List.range_succ, List.map_append, ← List.append_assoc]
      rfl
  · unfold o48_b0
    refine (cndF (df (by show ¬ (((m.pad.toNat : Nat) : Int) < m.pad); omega))).trans ?_
    exact dnS _
theorem o180_eq {m : Mc} (h0 : 0 ≤ m.pad) (h1 : m.pad ≤ 1000000) : o180 m.e = some (saveB m) := by
  unfold o180
  exact bdS (o48_eq h0 h1)
def mix (s : Int) (b : Int) : Int := IntKind.u64.wrap (IntKind.u64.wrap (s * 31) + IntKind.u64.wrap b)
def sumF (s : Int) (l : List UInt8) : Int := l.foldl (fun s b => mix s ((b.toNat : Nat) : Int)) s
def Mc.stepM (m : Mc) (cy : Int) (l : List UInt8) : Mc := ⟨sumF (mix m.sum cy) l, IntKind.i64.wrap (m.count + 1), m.pad⟩
def Mc.tg (m : Mc) : Tg := ⟨IntKind.u8.wrap (Int.tmod m.sum 7), IntKind.u8.wrap (Int.tmod m.sum 9), IntKind.u8.wrap (Int.tmod m.count 9), IntKind.i64.wrap (IntKind.i64.wrap (Int.tmod m.sum 6001) - 3000), IntKind.i64.wrap (Int.tmod (shrK .u64 m.sum 13) 1000), IntKind.i64.wrap (IntKind.i64.wrap (Int.tmod (shrK .u64 m.sum 23) 6000000) - 1000), IntKind.i64.wrap (IntKind.i64.wrap (Int.tmod (shrK .u64 m.sum 33) 12000) - 6000)⟩
theorem o56_eq (m : Mc) (cy : Int) {l : List UInt8} (hl : l.length ≤ 100000000) : o56 m.e cy l = some ((((m.stepM cy l).sum, (m.stepM cy l).count), (m.stepM cy l).pad, (m.stepM cy l).tg.lat, (m.stepM cy l).tg.ver), ((m.stepM cy l).tg.ph, (m.stepM cy l).tg.bank), (m.stepM cy l).tg.speed, (m.stepM cy l).tg.alt, (m.stepM cy l).tg.vs) := by
  unfold o56
  refine loop_from (fun i => ((l, (l.length : Int)), ((i : Nat) : Int), sumF (mix m.sum cy) (l.take i), m.count, m.pad)) l.length rfl (fun i hi => ?_) ?_ (by omega)
  · unfold o56_b0
    refine (cndT (dt (by show (i : Int) < (l.length : Int); omega))).trans ((gdT (dt (by show (0 : Int) ≤ i ∧ (i : Int) < (l.length : Int); omega))).trans ?_)
    dsimp only
    rw [show IntKind.i64.wrap ((i : Int) + 1) = ((i + 1 : Nat) : Int) by rw [wr64 (by omega)]; omega, List.take_succ_eq_append_getElem hi]
    unfold sumF
    rw [List.foldl_append, show (i : Int).toNat = i from rfl, getD_of hi]
    rfl
  · unfold o56_b0
    refine (cndF (df (by show ¬ (l.length : Int) < (l.length : Int); omega))).trans ?_
    dsimp only
    rw [List.take_length]
    exact dnS _
theorem o181_eq (m : Mc) (cy : Int) {l : List UInt8} (hl : l.length ≤ 100000000) : o181 cy l m.e = some ((m.stepM cy l).tg.e, (m.stepM cy l).e) := by
  unfold o181
  exact bdS (o56_eq m cy hl)
theorem o137_eq {p : List UInt8} (h : p.length ≤ 8) : o137 p = some (getI p p.length) := by
  unfold o137
  refine loop_from (fun i => ((getK p i, p), (p.length : Int), ((i : Nat) : Int))) p.length rfl (fun i hi => ?_) ?_ (by omega)
  · refine (cndT (dt ?_)).trans ((gdT (dt ?_)).trans ((gdT (dt ?_)).trans ?_))
    · show (i : Int) < (p.length : Int); omega
    · show (0 : Int) ≤ (i : Int) ∧ (i : Int) < (p.length : Int); omega
    · show (0 : Int) ≤ IntKind.i64.wrap (8 * (i : Int)); rw [wr64 (by omega)]; omega
    · show some (Ctl.go ((lorK .u64 (getK p i) (shlK .u64 (IntKind.u64.wrap ((p.getD (i : Int).toNat 0).toNat : Int)) (IntKind.i64.wrap (8 * (i : Int)))), p), (p.length : Int), IntKind.i64.wrap ((i : Int) + 1))) = _
      have hb := (p.getD (i : Int).toNat 0).toNat_lt
      rw [wr64 (by omega), wr64 (by omega), IntWalk.u64_in _ (by omega)]
      rfl
  · refine (cndF (df (by show ¬ (p.length : Int) < (p.length : Int); omega))).trans ?_
    refine (dnS _).trans ?_
    show some (Ctl.done (IntKind.i64.wrap (getK p p.length))) = _
    rw [getK_eq p _ h]
    rfl
def Mc.read (m : Mc) (p : List UInt8) : Mc := ⟨IntKind.u64.wrap (getI p 8), getI (p.drop 8) 8, m.pad⟩
def Mc.load (m : Mc) (p : List UInt8) : Mc × Int := cond ((p.length : Int) != 16 + m.pad) (m, 4) (cond (saveB (m.read p) == p) (m.read p, 0) (m, 4))
theorem o48_t (a b c : Int) (h0 : 0 ≤ c) (h1 : c ≤ 1000000) : o48 (a, b, c) = some (saveB ⟨a, b, c⟩) := o48_eq (m := ⟨a, b, c⟩) h0 h1
theorem o103_eq {m : Mc} {p : List UInt8} (h0 : 0 ≤ m.pad) (h1 : m.pad ≤ 1000000) : o103 m.e p = some (((m.load p).1.sum, (m.load p).1.count), (m.load p).1.pad, (m.load p).2) := by
  unfold o103 Mc.load
  have hw : IntKind.i64.wrap (16 + m.pad) = 16 + m.pad := wr64 (by omega)
  show cnd ((p.length : Int) != IntKind.i64.wrap (16 + m.pad)) _ _ = _
  rw [hw]
  by_cases hp : (p.length : Int) = 16 + m.pad
  · rw [cndF (neq_f hp), neq_f hp, cond_false]
    have d8 : (8 : Int).toNat = 8 := rfl
    have d16 : (16 : Int).toNat - 8 = 8 := rfl
    have g1 : o137 (p.take 8) = some (getI p 8) := by
      have hl : (p.take 8).length = 8 := by simp; omega
      rw [o137_eq (by omega), hl, getI_take]
    have g2 : o137 ((p.drop 8).take 8) = some (getI (p.drop 8) 8) := by
      have hl : ((p.drop 8).take 8).length = 8 := by simp; omega
      rw [o137_eq (by omega), hl, getI_take]
    rw [d8, d16, gdT (dt (by omega)), g1, bdI, gdT (dt (by omega)), g2, bdI]
    rw [show o48 (IntKind.u64.wrap (getI p 8), getI (p.drop 8) 8, m.e.2.2) = some (saveB (m.read p)) from o48_t _ _ _ h0 h1, bdI]
    exact cndN_ext (c := saveB (m.read p) == p) (F := fun x : Mc × Int => ((x.1.sum, x.1.count), x.1.pad, x.2)) rfl rfl
  · rw [cndT (neq_t hp), neq_t hp]; rfl
theorem o179_eq {m : Mc} {p : List UInt8} (h0 : 0 ≤ m.pad) (h1 : m.pad ≤ 1000000) : o179 p m.e = some ((m.load p).2, (m.load p).1.e) := by
  unfold o179
  exact bdS (o103_eq h0 h1)
theorem cond_pad {k : Int} {b : Bool} {x y : Mc × Int} (hx : x.1.pad = k) (hy : y.1.pad = k) : (cond b x y).1.pad = k := by cases b <;> assumption
theorem mk_pad (a b c : Int) : (Mc.mk a b c).pad = c := rfl
theorem read_pad (m : Mc) (p : List UInt8) : (m.read p).pad = m.pad := mk_pad _ _ _
theorem stepM_pad (m : Mc) (cy : Int) (l : List UInt8) : (m.stepM cy l).pad = m.pad := mk_pad _ _ _
theorem load_pad (m : Mc) (p : List UInt8) : (m.load p).1.pad = m.pad := by
  unfold Mc.load
  exact cond_pad rfl (cond_pad (read_pad m p) rfl)
def toward (last want rate : Int) : Int :=
  cond (decide (want ≥ last)) (cond (decide (IntKind.u64.wrap (IntKind.u64.wrap want - IntKind.u64.wrap last) ≤ IntKind.u64.wrap (maxI rate 0))) want (IntKind.i64.wrap (last + maxI rate 0)))
    (cond (decide (IntKind.u64.wrap (IntKind.u64.wrap last - IntKind.u64.wrap want) ≤ IntKind.u64.wrap (maxI rate 0))) want (IntKind.i64.wrap (last - maxI rate 0)))
theorem o63_eq (last want rate : Int) : o63 last want rate = some (toward last want rate) := by
  unfold o63 toward
  exact cnd_ext (F := fun x => x) (cnd_ext (F := fun x => x) rfl rfl) (cnd_ext (F := fun x => x) rfl rfl)
def limit (last want : Tg) (r1 r2 r3 r4 : Int) : Tg := ⟨want.lat, want.ver, want.ph, toward last.bank want.bank r1, toward last.speed want.speed r2, toward last.alt want.alt r3, toward last.vs want.vs r4⟩
theorem o19_eq (last want : Tg) (r1 r2 r3 r4 : Int) : o19 last.e want.e ((r1, r2), r3, r4) = some (limit last want r1 r2 r3 r4).e := by
  unfold o19
  exact (bdS (o63_eq _ _ _)).trans ((bdS (o63_eq _ _ _)).trans ((bdS (o63_eq _ _ _)).trans (bdS (o63_eq _ _ _))))
def select (a b : Int) : Int := cond ((((u8 a).toNat : Nat) : Int) == 4 || (((u8 a).toNat : Nat) : Int) == 3) 1 (cond ((((u8 b).toNat : Nat) : Int) == 4 || (((u8 b).toNat : Nat) : Int) == 3) 2 0)
theorem o20_eq (a b : Int) : o20 a b = some (select a b) := by
  unfold o20 select
  have hf : fuelN = (((fuelN - 3) + 1) + 1) + 1 := by simp [fuelN]
  rw [hf]
  cases ha : ((((u8 a).toNat : Nat) : Int) == 4 || (((u8 a).toNat : Nat) : Int) == 3) with
  | true =>
    refine loopO_done ?_
    unfold o20_b0
    show bd (cnd ((((u8 a).toNat : Nat) : Int) == 4) (some (_, _, true, _)) (some (_, _, (((u8 a).toNat : Nat) : Int) == 3, _))) _ = _
    revert ha
    cases ((((u8 a).toNat : Nat) : Int) == 4) <;> cases ((((u8 a).toNat : Nat) : Int) == 3) <;> intro ha <;> first | (cases ha; done) | rfl
  | false =>
    have s1 : o20_b0 ((2 : Int), (0 : Int), [u8 a, u8 b]) = some (.go ((2 : Int), (1 : Int), [u8 a, u8 b])) := by
      unfold o20_b0
      show bd (cnd ((((u8 a).toNat : Nat) : Int) == 4) (some (_, _, true, _)) (some (_, _, (((u8 a).toNat : Nat) : Int) == 3, _))) _ = _
      revert ha
      cases ((((u8 a).toNat : Nat) : Int) == 4) <;> cases ((((u8 a).toNat : Nat) : Int) == 3) <;> intro ha <;> first | (cases ha; done) | rfl
    refine (loopO_go s1).trans ?_
    cases hb : ((((u8 b).toNat : Nat) : Int) == 4 || (((u8 b).toNat : Nat) : Int) == 3) with
    | true =>
      refine loopO_done ?_
      unfold o20_b0
      show bd (cnd ((((u8 b).toNat : Nat) : Int) == 4) (some (_, _, true, _)) (some (_, _, (((u8 b).toNat : Nat) : Int) == 3, _))) _ = _
      revert hb
      cases ((((u8 b).toNat : Nat) : Int) == 4) <;> cases ((((u8 b).toNat : Nat) : Int) == 3) <;> intro hb <;> first | (cases hb; done) | rfl
    | false =>
      have s2 : o20_b0 ((2 : Int), (1 : Int), [u8 a, u8 b]) = some (.go ((2 : Int), (2 : Int), [u8 a, u8 b])) := by
        unfold o20_b0
        show bd (cnd ((((u8 b).toNat : Nat) : Int) == 4) (some (_, _, true, _)) (some (_, _, (((u8 b).toNat : Nat) : Int) == 3, _))) _ = _
        revert hb
        cases ((((u8 b).toNat : Nat) : Int) == 4) <;> cases ((((u8 b).toNat : Nat) : Int) == 3) <;> intro hb <;> first | (cases hb; done) | rfl
      refine (loopO_go s2).trans (loopO_done ?_)
      rfl
end Go.Proofs.YtpleflcfaecojaaGreat
