/-
  DERIVED. GIVEN WITH THE SEED: THE CARDS: each row of YtpglaekodahcoaaGreatDoorRows.lean that lists a variable, with what it lists TIED to the program's text (the seventh form; the later family's looks); each row that meets fmt, with fmt's text TOLD by the authors' own Lean function (tested against real Go, not proved from fmt's source: count such statements apart). THE CARD IS WHAT COUNTS. Prove the row's statement (the work); the ties are given (YtpglaekodahcoaaGreatDoorTie.lean); close each card by the builder's one call (the guide's Derived/Test/ToyasCard.lean, 'card_holds'). Laid BY PROGRAM, IN A SANDBOX (cutbox-door.mjs). By AI agents, Wed Nov 11 2026. No macro, syntax, notation, axiom, sorry.
-/
import Derived.Test.YtpglaekodahcoaaGreatDoorRows
import GoSem.ClaimSeven
namespace Go.Proofs.YtpglaekodahcoaaGreatDoor
namespace Rows

/-- THE TIED CARD OF 'flightdecktop.TopActive'. -/
def topActiveCard : Claim7 := { stood := { row := topActiveRow, standIns := [], harness := (true, "27a8041fd38b22cb460d6b7299e697cde53dde6f6f50b869bc665d3c32f8c90f"), looks := true }, kinds := [], alts := [], laidByText := true, laidKinds := [.data, .data, .data, .data, .sentinel, .sentinel, .data, .data, .pinned], laidTests := true, laidLooks := .later }
def TopActiveCardSaid : Prop := Claim7.holds Tryz.pinned (.plain (OpenSpec.ofChange topActiveSpec)) topActiveCard

/-- THE TIED CARD OF 'flightdecktop.TopDamage'. -/
def topDamageCard : Claim7 := { stood := { row := topDamageRow, standIns := [], harness := (true, "27a8041fd38b22cb460d6b7299e697cde53dde6f6f50b869bc665d3c32f8c90f"), looks := true }, kinds := [], alts := [], laidByText := true, laidKinds := [.data, .data, .data, .data, .sentinel, .sentinel, .data, .data, .pinned], laidTests := true, laidLooks := .later }
def TopDamageCardSaid : Prop := Claim7.holds Tryz.pinned (.plain (OpenSpec.ofChange topDamageSpec)) topDamageCard

/-- THE TIED CARD OF 'flightdecktop.TopCompile'. -/
def topCompileCard : Claim7 := { stood := { row := topCompileRow, standIns := [], harness := (true, "27a8041fd38b22cb460d6b7299e697cde53dde6f6f50b869bc665d3c32f8c90f"), looks := true }, kinds := [], alts := [], laidByText := true, laidKinds := [.data, .data, .data, .data, .sentinel, .sentinel, .data, .data, .pinned], laidTests := true, laidLooks := .later }
def TopCompileCardSaid : Prop := Claim7.holds Tryz.pinned (.plain (OpenSpec.ofChange topCompileSpec)) topCompileCard

/-- THE SECOND FORM's CARD OF 'flightdecktop.TopActive'. -/
def topActiveUptoCard : Claim7 := { stood := { row := topActiveUptoRow, standIns := [], harness := (true, "27a8041fd38b22cb460d6b7299e697cde53dde6f6f50b869bc665d3c32f8c90f"), looks := true }, kinds := [], alts := [], laidByText := true, laidKinds := [.data, .data, .data, .data, .sentinel, .sentinel, .data, .data, .pinned], laidTests := true, laidLooks := .later }
def TopActiveUptoCardSaid : Prop := Claim7.holds Tryz.pinned (.plain (OpenSpec.upto topActiveSpec)) topActiveUptoCard

/-- THE SECOND FORM's CARD OF 'flightdecktop.TopDamage'. -/
def topDamageUptoCard : Claim7 := { stood := { row := topDamageUptoRow, standIns := [], harness := (true, "27a8041fd38b22cb460d6b7299e697cde53dde6f6f50b869bc665d3c32f8c90f"), looks := true }, kinds := [], alts := [], laidByText := true, laidKinds := [.data, .data, .data, .data, .sentinel, .sentinel, .data, .data, .pinned], laidTests := true, laidLooks := .later }
def TopDamageUptoCardSaid : Prop := Claim7.holds Tryz.pinned (.plain (OpenSpec.upto topDamageSpec)) topDamageUptoCard

/-- THE SECOND FORM's CARD OF 'flightdecktop.TopCompile'. -/
def topCompileUptoCard : Claim7 := { stood := { row := topCompileUptoRow, standIns := [], harness := (true, "27a8041fd38b22cb460d6b7299e697cde53dde6f6f50b869bc665d3c32f8c90f"), looks := true }, kinds := [], alts := [], laidByText := true, laidKinds := [.data, .data, .data, .data, .sentinel, .sentinel, .data, .data, .pinned], laidTests := true, laidLooks := .later }
def TopCompileUptoCardSaid : Prop := Claim7.holds Tryz.pinned (.plain (OpenSpec.upto topCompileSpec)) topCompileUptoCard
end Rows
end Go.Proofs.YtpglaekodahcoaaGreatDoor
