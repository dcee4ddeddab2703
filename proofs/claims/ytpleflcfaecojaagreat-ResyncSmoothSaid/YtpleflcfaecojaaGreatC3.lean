/-
Sets and results as bytes. Conditions: each lemma's own.
-/
import Derived.Test.YtpleflcfaecojaaGreatC2
namespace Go.Proofs.YtpleflcfaecojaaGreat
set_option linter.unusedVariables false
set_option linter.unusedSimpArgs false
set_option maxRecDepth 100000
open Go.RowKit
structure Se where
  steps : Int
  cycle : Int
  fresh : Bool
  in_ : List UInt8
def Se.e (x : Se) : (Int × Int) × Bool × List UInt8 := ((x.steps, x.cycle), x.fresh, x.in_)
def noSe : Se := ⟨0, 0, false, []⟩
def setB (x : Se) : List UInt8 := putB x.steps 8 ++ [u8 (cond x.fresh 1 0)] ++ x.in_
def putSet (x : Se) : Int × List UInt8 := cond (decide (x.steps < 0)) (1, []) (cond ((unpackC x.in_).err != 0) ((unpackC x.in_).err, []) (0, setB x))
theorem o119_eq {x : Se} (h : x.in_.length ≤ 1000000) : o119 x.e = some (putSet x) := by
  unfold o119 putSet
  by_cases h1 : x.steps < 0
  · refine (cndT (dt h1)).trans ?_
    rw [dt h1]; rfl
  refine (cndF (df h1)).trans ?_
  rw [df h1, cond_false]
  refine (bdS (o150_eq h)).trans ?_
  show cnd ((unpackC x.in_).err != 0) (some ((unpackC x.in_).err, [])) (bd (cnd x.fresh (some ((1 : Int), ((x.steps, x.cycle), x.fresh, x.in_))) (some ((0 : Int), ((x.steps, x.cycle), x.fresh, x.in_)))) _) = _
  cases (unpackC x.in_).err != 0 with
  | true => rfl
  | false =>
    rw [cndF rfl, cond_false]
    have e : (cnd x.fresh (some ((1 : Int), ((x.steps, x.cycle), x.fresh, x.in_))) (some ((0 : Int), ((x.steps, x.cycle), x.fresh, x.in_)))) = some (cond x.fresh 1 0, ((x.steps, x.cycle), x.fresh, x.in_)) := by cases x.fresh <;> rfl
    rw [e, bdI, e8', o148v1_eq _ (by decide), bdI, gdT (dt (by simp [putB_len])), gdT (dt (by simp [putB_len]; omega))]
    rfl
def getSet (cycle : Int) (p : List UInt8) : Se × Int :=
  cond (decide ((p.length : Int) < 9)) (noSe, 4) (cond (decide (((p.getD 8 0).toNat : Int) > 1)) (noSe, 4)
    (cond ((putSet ⟨getI p 8, cycle, ((p.getD 8 0).toNat : Int) == 1, p.drop 9⟩).1 != 0) (noSe, 4) (⟨getI p 8, cycle, ((p.getD 8 0).toNat : Int) == 1, p.drop 9⟩, 0)))
theorem o77_eq {cycle : Int} {p : List UInt8} (h : p.length ≤ 1000000) : o77 cycle p = some ((((getSet cycle p).1.steps, (getSet cycle p).1.cycle), (getSet cycle p).1.fresh, (getSet cycle p).2), (getSet cycle p).1.in_) := by
  unfold o77 getSet
  by_cases h1 : ((p.length : Nat) : Int) < 9
  · rw [cndT (dt h1), dt h1]; rfl
  rw [cndF (df h1), df h1, cond_false, gdT (dt (by omega)), bdI]
  have d8 : (8 : Int).toNat = 8 := rfl
  have d9 : (9 : Int).toNat = 9 := rfl
  simp only [d8, d9]
  cases decide (((p.getD 8 0).toNat : Int) > 1) with
  | true => rfl
  | false =>
    rw [cndF rfl, cond_false, e8', o120_eq (by decide) (by omega), bdI, gdT (dt (by omega)), gdT (dt (by omega)), o33_eq (by simp; omega), bdI]
    have g := o119_eq (x := ⟨getI p 8, cycle, ((p.getD 8 0).toNat : Int) == 1, p.drop 9⟩) (by simp; omega)
    rw [show o119 ((getI p 8, cycle), ((p.getD 8 0).toNat : Int) == 1, p.drop 9) = _ from g, bdI]
    cases ((putSet ⟨getI p 8, cycle, ((p.getD 8 0).toNat : Int) == 1, p.drop 9⟩).1 != 0) <;> rfl
structure Tg where
  lat : Int
  ver : Int
  ph : Int
  bank : Int
  speed : Int
  alt : Int
  vs : Int
def Tg.e (t : Tg) : (Int × Int × Int) × (Int × Int) × Int × Int := ((t.lat, t.ver, t.ph), (t.bank, t.speed), t.alt, t.vs)
def noTg : Tg := ⟨0, 0, 0, 0, 0, 0, 0⟩
def putRes (s : Int) (t : Tg) : List UInt8 := putB s 8 ++ [u8 t.lat, u8 t.ver, u8 t.ph] ++ putB t.bank 8 ++ putB t.speed 8 ++ putB t.alt 8 ++ putB t.vs 8
theorem resStep {l : List UInt8} {t : Tg} {i : Nat} (hi : i < 4) (hl : l.length ≤ 1000) : o121_b0 ((4, (i : Int)), l, [t.bank, t.speed, t.alt, t.vs]) = some (.go ((4, ((i + 1 : Nat) : Int)), l ++ putB ([t.bank, t.speed, t.alt, t.vs].getD i 0) 8, [t.bank, t.speed, t.alt, t.vs])) := by
  unfold o121_b0
  refine (cndT (dt (by show (i : Int) < 4; omega))).trans ((gdT (dt (by show (0 : Int) ≤ i ∧ (i : Int) < 4; omega))).trans ?_)
  dsimp only
  rw [e8', o148_eq _ (by decide) (by omega), bdI, wr64 (by omega)]
  rfl
theorem o121_eq (s : Int) (t : Tg) : o121 (((s, t.lat), t.ver, t.ph), (t.bank, t.speed), t.alt, t.vs) = some (putRes s t) := by
  unfold o121
  dsimp only
  rw [e8', o148v1_eq _ (by decide), bdI, gdT (dt (by simp [putB_len]))]
  have hf : fuelN = (((((fuelN - 5) + 1) + 1) + 1) + 1) + 1 := by simp [fuelN]
  rw [hf]
  have s0 := resStep (t := t) (i := 0) (l := putB s 8 ++ [u8 t.lat, u8 t.ver, u8 t.ph]) (by decide) (by simp [putB_len])
  refine (loopO_go s0).trans ((loopO_go (resStep (t := t) (i := 1) (by decide) (by simp [putB_len]))).trans ((loopO_go (resStep (t := t) (i := 2) (by decide) (by simp [putB_len]))).trans ((loopO_go (resStep (t := t) (i := 3) (by decide) (by simp [putB_len]))).trans (loopO_done ?_))))
  unfold o121_b0
  refine (cndF (df (by show ¬ ((4 : Nat) : Int) < 4; decide))).trans ?_
  rw [dnS]
  rfl
def getRes (p : List UInt8) : Int × Tg × Int := cond (((p.length : Nat) : Int) != 43) (0, noTg, 4) (getI p 8, ⟨((p.getD 8 0).toNat : Int), ((p.getD 9 0).toNat : Int), ((p.getD 10 0).toNat : Int), getI (p.drop 11) 8, getI (p.drop 19) 8, getI (p.drop 27) 8, getI (p.drop 35) 8⟩, 0)
def resE (x : Int × Tg × Int) : (((Int × Int) × Int × Int) × (Int × Int) × Int × Int × Int) := (((x.1, x.2.1.lat), x.2.1.ver, x.2.1.ph), (x.2.1.bank, x.2.1.speed), x.2.1.alt, x.2.1.vs, x.2.2)
theorem o122_eq (p : List UInt8) : o122 p = some (resE (getRes p)) := by
  unfold o122 getRes
  by_cases h : ((p.length : Nat) : Int) = 43
  · rw [cndF (neq_f h), neq_f h, cond_false]
    have d8 : (8 : Int).toNat = 8 := rfl
    have d9 : (9 : Int).toNat = 9 := rfl
    have d10 : (10 : Int).toNat = 10 := rfl
    have d11 : (11 : Int).toNat = 11 := rfl
    have d19 : (19 : Int).toNat = 19 := rfl
    have d27 : (27 : Int).toNat = 27 := rfl
    have d35 : (35 : Int).toNat = 35 := rfl
    have g : ∀ j, j + 8 ≤ 43 → o120 (p.drop j) 8 = some (getI (p.drop j) 8) := fun j hj => o120_eq (k := 8) (by decide) (by simp; omega)
    have g0 : o120 p 8 = some (getI p 8) := o120_eq (k := 8) (by decide) (by omega)
    rw [d8, d9, d10, d11, d19, d27, d35, g0, bdI, gdT (dt (by omega)), gdT (dt (by omega)), gdT (dt (by omega)), gdT (dt (by omega)), g 11 (by decide), bdI, gdT (dt (by omega)), g 19 (by decide), bdI, gdT (dt (by omega)), g 27 (by decide), bdI, gdT (dt (by omega)), g 35 (by decide), bdI]
    rfl
  · rw [cndT (neq_t h), neq_t h]; rfl
end Go.Proofs.YtpleflcfaecojaaGreat
