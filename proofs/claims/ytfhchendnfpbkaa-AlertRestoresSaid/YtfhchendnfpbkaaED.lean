/-
The data of the seat as plain structures. Conditions: none.
-/
import Derived.Test.YtfhchendnfpbkaaG8
namespace Go.Proofs.Ytfhchendnfpbkaa
set_option linter.unusedVariables false
set_option linter.unusedSimpArgs false
set_option maxRecDepth 100000
open Go.RowKit
structure AlertDef where
  name : List UInt8
  level : Int
  inhibit : Int
deriving Inhabited, DecidableEq
def tyAlertDef : Ty AlertDef := ⟨3, by decide, fun p cs x => cs = [vt x.name, vy x.level, Value.int .u16 x.inhibit],
  fun h => by subst h; rfl, fun h => by subst h; rfl, fun _ h => h⟩
def okAlertDef (x : AlertDef) : Prop := (fun l => l.length ≤ 140737488355328) x.name ∧ (inK .u8) x.level ∧ (inK .u16) x.inhibit ∧ True
structure Act where
  kind : Int
  conds : Int
  phase : Int
  index : Int
deriving Inhabited, DecidableEq
structure RBoard where
  defs : List AlertDef
  steps : Int
  phase : Int
  onset : List Int
  acked : List Bool
deriving Inhabited, DecidableEq
structure Cnd where
  onset : Int
  acked : Bool
deriving Inhabited, DecidableEq
def tyCnd : Ty Cnd := ⟨2, by decide, fun p cs x => cs = [vi x.onset, vb x.acked],
  fun h => by subst h; rfl, fun h => by subst h; rfl, fun _ h => h⟩
structure Board where
  defs : List AlertDef
  steps : Int
  phase : Int
  conds : List Cnd
deriving Inhabited, DecidableEq
abbrev cRBoard (x : RBoard) (A_defs : Option Addr) (c_defs : Nat) (A_onset : Option Addr) (c_onset : Nat) (A_acked : Option Addr) (c_acked : Nat) : List Value := [vs A_defs x.defs c_defs, vi x.steps, vy x.phase, vs A_onset x.onset c_onset, vs A_acked x.acked c_acked]
abbrev cBoard (x : Board) (A_defs : Option Addr) (c_defs : Nat) (A_conds : Option Addr) (c_conds : Nat) : List Value := [vs A_defs x.defs c_defs, vi x.steps, vy x.phase, vs A_conds x.conds c_conds]
end Go.Proofs.Ytfhchendnfpbkaa
