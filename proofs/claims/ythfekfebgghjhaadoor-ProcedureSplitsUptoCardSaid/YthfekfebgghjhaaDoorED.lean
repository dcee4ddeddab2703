/-
The data of the seat as plain structures. Conditions: none.
-/
import Derived.Test.YthfekfebgghjhaaDoorG10
namespace Go.Proofs.YthfekfebgghjhaaDoor
set_option linter.unusedVariables false
set_option linter.unusedSimpArgs false
set_option maxRecDepth 100000
open Go.RowKit
structure Win where
  lo : Int
  hi : Int
deriving Inhabited, DecidableEq
def tyWin : Ty Win := ⟨2, by decide, fun p cs x => cs = [vi x.lo, vi x.hi],
  fun h => by subst h; rfl, fun h => by subst h; rfl, fun _ h => h⟩
theorem flatWin : Flat tyWin := fun _ _ _ _ h => h
def okWin (x : Win) : Prop := (inK .i64) x.lo ∧ (inK .i64) x.hi ∧ True
structure Leg where
  type_ : Int
  fix : List UInt8
  center : List UInt8
  turn : Int
  over : Bool
  course : Int
  dist : Int
  radius : Int
  theta : Int
  alt : Win
  speed : Int
  rnp : Int
deriving Inhabited, DecidableEq
def tyLeg : Ty Leg := ⟨13, by decide, fun p cs x => cs = [vy x.type_, vt x.fix, vt x.center, vy x.turn, vb x.over, vi x.course, vi x.dist, vi x.radius, vi x.theta, vi x.alt.lo, vi x.alt.hi, vi x.speed, vi x.rnp],
  fun h => by subst h; rfl, fun h => by subst h; rfl, fun _ h => h⟩
theorem flatLeg : Flat tyLeg := fun _ _ _ _ h => h
def okLeg (x : Leg) : Prop := (inK .u8) x.type_ ∧ (fun l => l.length ≤ 140737488355328) x.fix ∧ (fun l => l.length ≤ 140737488355328) x.center ∧ (inK .u8) x.turn ∧ (fun _ => True) x.over ∧ (inK .i64) x.course ∧ (inK .i64) x.dist ∧ (inK .i64) x.radius ∧ (inK .i64) x.theta ∧ okWin x.alt ∧ (inK .i64) x.speed ∧ (inK .i64) x.rnp ∧ True
structure Part where
  kind : Int
  name : List UInt8
  legs : List Leg
deriving Inhabited, DecidableEq
def tyPart : Ty Part := ⟨3, by decide, fun p cs x => ∃ (A_legs : Option Addr) (c_legs : Nat), cs = [vy x.kind, vt x.name, vs A_legs x.legs c_legs] ∧ Arr p tyLeg A_legs c_legs x.legs,
  fun h => by obtain ⟨A_legs, c_legs, rfl, q0⟩ := h; rfl, fun h => by obtain ⟨A_legs, c_legs, rfl, q0⟩ := h; rfl, fun k h => by obtain ⟨A_legs, c_legs, e, q0⟩ := h; exact ⟨A_legs, c_legs, e, q0.mono k⟩⟩
def okPart (x : Part) : Prop := (inK .u8) x.kind ∧ (fun l => l.length ≤ 140737488355328) x.name ∧ (fun xs => xs.length * 112 ≤ 140737488351232 ∧ ∀ x ∈ xs, okLeg x) x.legs ∧ True
structure Proc where
  airport : List UInt8
  name : List UInt8
  kind : Int
  parts : List Part
deriving Inhabited, DecidableEq
def tyProc : Ty Proc := ⟨4, by decide, fun p cs x => ∃ (A_parts : Option Addr) (c_parts : Nat), cs = [vt x.airport, vt x.name, vy x.kind, vs A_parts x.parts c_parts] ∧ Arr p tyPart A_parts c_parts x.parts,
  fun h => by obtain ⟨A_parts, c_parts, rfl, q0⟩ := h; rfl, fun h => by obtain ⟨A_parts, c_parts, rfl, q0⟩ := h; rfl, fun k h => by obtain ⟨A_parts, c_parts, e, q0⟩ := h; exact ⟨A_parts, c_parts, e, q0.mono k⟩⟩
def okProc (x : Proc) : Prop := (fun l => l.length ≤ 140737488355328) x.airport ∧ (fun l => l.length ≤ 140737488355328) x.name ∧ (inK .u8) x.kind ∧ (fun xs => xs.length * 48 ≤ 140737488351232 ∧ ∀ x ∈ xs, okPart x) x.parts ∧ True
structure ThreeK where
  a0 : Int
  a1 : Int
  a2 : Int
deriving Inhabited, DecidableEq
def tyThreeK : Ty ThreeK := ⟨3, by decide, fun p cs x => cs = [vy x.a0, vy x.a1, vy x.a2],
  fun h => by subst h; rfl, fun h => by subst h; rfl, fun _ h => h⟩
theorem flatThreeK : Flat tyThreeK := fun _ _ _ _ h => h
def okThreeK (x : ThreeK) : Prop := (inK .u8) x.a0 ∧ (inK .u8) x.a1 ∧ (inK .u8) x.a2 ∧ True
abbrev cProc (x : Proc) (A_parts : Option Addr) (c_parts : Nat) : List Value := [vt x.airport, vt x.name, vy x.kind, vs A_parts x.parts c_parts]
abbrev cLeg (x : Leg) : List Value := [vy x.type_, vt x.fix, vt x.center, vy x.turn, vb x.over, vi x.course, vi x.dist, vi x.radius, vi x.theta, vi x.alt.lo, vi x.alt.hi, vi x.speed, vi x.rnp]
def usesL : List Int := [0, 1, 9, 25, 9, 71, 71, 16, 50, 16, 146, 17, 49, 17, 53, 53, 53, 53]
theorem hlUses : 18 = usesL.length := rfl
end Go.Proofs.YthfekfebgghjhaaDoor
