/-
  DERIVED. GIVEN WITH THE SEED: THE CARDS: each row of YtehljpghmbobfaaGreatDoorRows.lean that lists a variable, with what it lists TIED to the program's text (the seventh form; the later family's looks); each row that meets fmt, with fmt's text TOLD by the authors' own Lean function (tested against real Go, not proved from fmt's source: count such statements apart). THE CARD IS WHAT COUNTS. Prove the row's statement (the work); the ties are given (YtehljpghmbobfaaGreatDoorTie.lean); close each card by the builder's one call (the guide's Derived/Test/ToyasCard.lean, 'card_holds'). Laid BY PROGRAM, IN A SANDBOX (cutbox-door.mjs). By AI agents, Wed Nov 11 2026. No macro, syntax, notation, axiom, sorry.
-/
import Derived.Test.YtehljpghmbobfaaGreatDoorRows
import GoSem.ClaimSeven
namespace Go.Proofs.YtehljpghmbobfaaGreatDoor
namespace Rows

/-- THE TIED CARD OF 'flightdecktop.TopUndo'. -/
def topUndoCard : Claim7 := { stood := { row := topUndoRow, standIns := [], harness := (true, "8080bd4d713597bf49bcc430dfd4c1890744d49200d653059d0fa8ed95920e2a"), looks := false }, kinds := [], alts := [], laidByText := true, laidKinds := [.data, .data, .data, .data], laidTests := true, laidLooks := .later }
def TopUndoCardSaid : Prop := Claim7.holds Tryz.pinned (.plain (OpenSpec.ofChange topUndoSpec)) topUndoCard

/-- THE SECOND FORM's CARD OF 'flightdecktop.TopUndo'. -/
def topUndoUptoCard : Claim7 := { stood := { row := topUndoUptoRow, standIns := [], harness := (true, "8080bd4d713597bf49bcc430dfd4c1890744d49200d653059d0fa8ed95920e2a"), looks := false }, kinds := [], alts := [], laidByText := true, laidKinds := [.data, .data, .data, .data], laidTests := true, laidLooks := .later }
def TopUndoUptoCardSaid : Prop := Claim7.holds Tryz.pinned (.plain (OpenSpec.upto topUndoSpec)) topUndoUptoCard
end Rows
end Go.Proofs.YtehljpghmbobfaaGreatDoor
