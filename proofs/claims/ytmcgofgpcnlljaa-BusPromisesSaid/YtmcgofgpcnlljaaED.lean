/-
The data of the seat as plain structures. Conditions: none.
-/
import Derived.Test.YtmcgofgpcnlljaaG8
namespace Go.Proofs.Ytmcgofgpcnlljaa
set_option linter.unusedVariables false
set_option linter.unusedSimpArgs false
set_option maxRecDepth 100000
open Go.RowKit
structure Frame where
  label : Int
  from_ : Int
  cycle : Int
  payload : List UInt8
deriving Inhabited, DecidableEq
def tyFrame : Ty Frame := ⟨4, by decide, fun p cs x => ∃ (A_payload : Option Addr) (c_payload : Nat), cs = [vy x.label, vy x.from_, vi x.cycle, vs A_payload x.payload c_payload] ∧ Arr p tyU8 A_payload c_payload x.payload,
  fun h => by obtain ⟨A_payload, c_payload, rfl, q0⟩ := h; rfl, fun h => by obtain ⟨A_payload, c_payload, rfl, q0⟩ := h; rfl, fun k h => by obtain ⟨A_payload, c_payload, e, q0⟩ := h; exact ⟨A_payload, c_payload, e, q0.mono k⟩⟩
def okFrame (x : Frame) : Prop := (inK .u8) x.label ∧ (inK .u8) x.from_ ∧ (inK .i64) x.cycle ∧ (fun xs => ∀ x ∈ xs, (fun _ => True) x) x.payload ∧ True
structure Slot where
  label : Int
  offset : Int
deriving Inhabited, DecidableEq
def tySlot : Ty Slot := ⟨2, by decide, fun p cs x => cs = [vy x.label, vi x.offset],
  fun h => by subst h; rfl, fun h => by subst h; rfl, fun _ h => h⟩
theorem flatSlot : Flat tySlot := fun _ _ _ _ h => h
def okSlot (x : Slot) : Prop := (inK .u8) x.label ∧ (inK .i64) x.offset ∧ True
structure Fate where
  lost : Bool
  bit : Int
  pattern : Int
deriving Inhabited, DecidableEq
def tyFate : Ty Fate := ⟨3, by decide, fun p cs x => cs = [vb x.lost, vi x.bit, Value.int .u32 x.pattern],
  fun h => by subst h; rfl, fun h => by subst h; rfl, fun _ h => h⟩
theorem flatFate : Flat tyFate := fun _ _ _ _ h => h
def okFate (x : Fate) : Prop := (fun _ => True) x.lost ∧ (inK .i64) x.bit ∧ (inK .u32) x.pattern ∧ True
structure Msg where
  label : Int
  period : Int
  length : Int
deriving Inhabited, DecidableEq
def tyMsg : Ty Msg := ⟨3, by decide, fun p cs x => cs = [vy x.label, vi x.period, vi x.length],
  fun h => by subst h; rfl, fun h => by subst h; rfl, fun _ h => h⟩
theorem flatMsg : Flat tyMsg := fun _ _ _ _ h => h
def okMsg (x : Msg) : Prop := (inK .u8) x.label ∧ (inK .i64) x.period ∧ (inK .i64) x.length ∧ True
abbrev cFrame (x : Frame) (A_payload : Option Addr) (c_payload : Nat) : List Value := [vy x.label, vy x.from_, vi x.cycle, vs A_payload x.payload c_payload]
end Go.Proofs.Ytmcgofgpcnlljaa
