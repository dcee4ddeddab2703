/-
  NARROWER THAN 'FOR EVERY INPUT', by the rows' own cells (each row's printed sentence says how): TopUndo: laid.
  DERIVED. THE GIVEN ROWS OF THIS SEAT. 1 by the template 'for every input the law returns true; each argument reads behind the call as it read before'; 0 by the template 'total and deterministic' (their statements: YtehljpghmbobfaaGreatDoorTotals.lean).
  GIVEN WITH THE SEED: the statements are not yours to turn. If you find one false, say at which input.
  Laid BY PROGRAM, IN A SANDBOX (cutbox-rows.mjs): the forced cells as the released guide's own fill.sh prints them over the translation 71df57d97f4ba077… (all of the seat's roots in one cut). By AI agents, Wed Nov 11 2026. No macro, syntax, notation, axiom, sorry.
-/
import Derived.Test.YtehljpghmbobfaaGreatDoorChecked
import GoSem.Claim
import GoSem.ClaimJoined
import GoSem.ClaimMapViews
import Derived.JoinedTies
import Derived.KernelRfl
namespace Go.Proofs.YtehljpghmbobfaaGreatDoor
/- THE CELL 'sum', in the pinned program and in every row, IS THE sha256 OF THE DUMP (.gsa) THAT YtehljpghmbobfaaGreatDoorProg.lean LOADS. Nothing in Lean hashes anything: it is a label: what it is worth is what the hold of that sum in a sandbox is worth. -/
noncomputable def Tryz.pinned : Pinned := { name := "ytehljpghmbobfaagreatdoor", sum := "71df57d97f4ba077cd3ba01e24c29c8e8ccd09894bae2f2e80ac0a91fb405588", checked := Tryz.checked }
namespace Rows
def none {H : Type} : Left H := { results := [], args := [] }

/- WHAT THE LISTED PACKAGE-LEVEL VARIABLES READ AS WHEN THE CALL BEGINS. Each datum BY PROGRAM (the guide's laid-datum.mjs) off the statement by which the dump's own 'gosem.cut.vars' lays the variable. In a bare row this is a premise. The card (YtehljpghmbobfaaGreatDoorCards.lean) ties it to the program's text. -/
def laid_flightdeck_leg_uses {H : Type} : DataW H := .agg [.lit (.int .u16 0), .lit (.int .u16 1), .lit (.int .u16 9), .lit (.int .u16 25), .lit (.int .u16 9), .lit (.int .u16 71), .lit (.int .u16 71), .lit (.int .u16 16), .lit (.int .u16 50), .lit (.int .u16 16), .lit (.int .u16 146), .lit (.int .u16 17), .lit (.int .u16 49), .lit (.int .u16 17), .lit (.int .u16 53), .lit (.int .u16 53), .lit (.int .u16 53), .lit (.int .u16 53)]
def laid_flightdeck_edit_forms {H : Type} : DataW H := .agg [.agg [.lit (.string []), .lit (.string [])], .agg [.lit (.string [73, 78, 83, 69, 82, 84]), .lit (.string [97, 114])], .agg [.lit (.string [68, 69, 76, 69, 84, 69]), .lit (.string [97])], .agg [.lit (.string [68, 73, 82, 69, 67, 84]), .lit (.string [97])], .agg [.lit (.string [65, 76, 84]), .lit (.string [97, 104])], .agg [.lit (.string [83, 80, 68]), .lit (.string [97, 115])], .agg [.lit (.string [82, 78, 80]), .lit (.string [97, 100])], .agg [.lit (.string [72, 79, 76, 68]), .lit (.string [97, 99, 100, 117])], .agg [.lit (.string [65, 73, 82, 87, 65, 89]), .lit (.string [97, 114, 110])], .agg [.lit (.string [68, 69, 80, 65, 82, 84, 85, 82, 69]), .lit (.string [110, 119, 116])], .agg [.lit (.string [65, 82, 82, 73, 86, 65, 76]), .lit (.string [110, 119, 116])], .agg [.lit (.string [65, 80, 80, 82, 79, 65, 67, 72]), .lit (.string [110, 116])], .agg [.lit (.string [68, 73, 86, 69, 82, 84]), .lit (.string [97, 110])]]
def laid_flightdeck_edit_gap {H : Type} : DataW H := .agg [.lit (.bool true), .agg [.lit (.int .u8 0), .lit (.string []), .lit (.string []), .lit (.int .u8 0), .lit (.bool false), .lit (.int .i64 0), .lit (.int .i64 0), .lit (.int .i64 0), .lit (.int .i64 0), .agg [.lit (.int .i64 0), .lit (.int .i64 0)], .lit (.int .i64 0), .lit (.int .i64 0)], .agg [.lit (.int .i64 0), .lit (.int .i64 0)], .agg [.lit (.int .i64 0), .lit (.int .i64 0)], .lit (.int .u8 0), .lit (.string [])]
def laid_flightdeck_edit_free {H : Type} : DataW H := .agg [.lit (.int .i64 (-200000)), .lit (.int .i64 6000000)]

/-- 'flightdecktop.TopUndo': WHATEVER THE INPUT: true; the input reads as it did. -/
def topUndoSpec : ChangeSpec := { name := "topUndo", fn := fun _ => fun
  | [d1, d2, d3] => { results := [.lit (.bool true)], args := [d1, d2, d3] }
  | _ => none }
def topUndoRow : OpenClaim := { program := "ytehljpghmbobfaagreatdoor", sum := "71df57d97f4ba077cd3ba01e24c29c8e8ccd09894bae2f2e80ac0a91fb405588", func := "flightdeck/flightdecktop.TopUndo", spec := "topUndo", inPlace := ["internal/bytealg.IndexByteString", "internal/bytealg.IndexString"], unfollowed := true, recurses := true, named := ["internal/bytealg.MaxLen", "flightdeck/leg.uses", "flightdeck/edit.forms", "flightdeck/edit.gap", "flightdeck/edit.free", "math/bits.divideError", "math/bits.overflowError"], apart := false, laid := [("flightdeck/leg.uses", laid_flightdeck_leg_uses), ("flightdeck/edit.forms", laid_flightdeck_edit_forms), ("flightdeck/edit.gap", laid_flightdeck_edit_gap), ("flightdeck/edit.free", laid_flightdeck_edit_free)] }
def TopUndoSaid : Prop := topUndoRow.holds Tryz.pinned (OpenSpec.ofChange topUndoSpec)

/-- ITS FALSE NEIGHBOUR: 'it returns false'. Refute it at one input. -/
def topUndoWrong : ChangeSpec := { name := "topUndo", fn := fun _ => fun
  | [d1, d2, d3] => { results := [.lit (.bool false)], args := [d1, d2, d3] }
  | _ => none }
def TopUndoWrongFalsely : Prop := topUndoRow.holds Tryz.pinned (OpenSpec.ofChange topUndoWrong)

/- THE SECOND FORM. 'bulk': how many values and letters a reading holds, each counted each time it is reached (what is shared counts as often as it is met; a slice's spare places count too). A statement '..UptoSaid' is the law's where the arguments, and the package variables that the reading takes, are together of bulk at most 1048576: NARROWER than '..Said'. Prove '..Said' where nothing that the law and all that it calls make is longer than what came in: it says more and counts as full. Else prove '..UptoSaid'. A law counts once. -/
mutual
def uptoBulk {H : Type} : DataW H → Nat
  | .lit (.string bytes) => bytes.length + 1
  | .lit _ => 1
  | .nil => 1
  | .ptr d => uptoBulk d + 1
  | .slice elems spare => uptoBulkAll elems + uptoBulkAll spare + 1
  | .agg parts => uptoBulkAll parts + 1
  | .iface _ d => uptoBulk d + 1
  | .map entries => uptoBulkEntries entries + 1
  | .held _ => 1
def uptoBulkAll {H : Type} : List (DataW H) → Nat
  | [] => 0
  | d :: r => uptoBulk d + uptoBulkAll r
def uptoBulkEntries {H : Type} : List (Lit × DataW H) → Nat
  | [] => 0
  | x :: r => uptoBulkEntry x + uptoBulkEntries r
def uptoBulkEntry {H : Type} : Lit × DataW H → Nat
  | (.string bytes, d) => bytes.length + uptoBulk d + 1
  | (_, d) => uptoBulk d + 1
 end
def uptoSmall : (H : Type) → List (DataW H) → Bool := fun _ ds => decide (uptoBulkAll ds ≤ 1048576)
def OpenSpec.upto (s : _root_.Go.ChangeSpec) : _root_.Go.OpenSpec := { _root_.Go.OpenSpec.ofChange s with cond := some uptoSmall }

/-- 'flightdecktop.TopUndo', WHERE WHAT IT READS IS OF BULK AT MOST 1048576: true; the input reads as it did. -/
def topUndoUptoRow : OpenClaim := { program := "ytehljpghmbobfaagreatdoor", sum := "71df57d97f4ba077cd3ba01e24c29c8e8ccd09894bae2f2e80ac0a91fb405588", func := "flightdeck/flightdecktop.TopUndo", spec := "topUndo", inPlace := ["internal/bytealg.IndexByteString", "internal/bytealg.IndexString"], unfollowed := true, recurses := true, named := ["internal/bytealg.MaxLen", "flightdeck/leg.uses", "flightdeck/edit.forms", "flightdeck/edit.gap", "flightdeck/edit.free", "math/bits.divideError", "math/bits.overflowError"], apart := false, laid := [("flightdeck/leg.uses", laid_flightdeck_leg_uses), ("flightdeck/edit.forms", laid_flightdeck_edit_forms), ("flightdeck/edit.gap", laid_flightdeck_edit_gap), ("flightdeck/edit.free", laid_flightdeck_edit_free)], narrowed := true }
def TopUndoUptoSaid : Prop := topUndoUptoRow.holds Tryz.pinned (OpenSpec.upto topUndoSpec)

end Rows
end Go.Proofs.YtehljpghmbobfaaGreatDoor
