/-
  DERIVED. GIVEN WITH THE SEED: THE CARDS: each row of YtnkmijidneibnaaDoorRows.lean that lists a variable, with what it lists TIED to the program's text (the seventh form; the later family's looks); each row that meets fmt, with fmt's text TOLD by the authors' own Lean function (tested against real Go, not proved from fmt's source: count such statements apart). THE CARD IS WHAT COUNTS. Prove the row's statement (the work); the ties are given (YtnkmijidneibnaaDoorTie.lean); close each card by the builder's one call (the guide's Derived/Test/ToyasCard.lean, 'card_holds'). Laid BY PROGRAM, IN A SANDBOX (cutbox-door.mjs). By AI agents, Wed Nov 11 2026. No macro, syntax, notation, axiom, sorry.
-/
import Derived.Test.YtnkmijidneibnaaDoorRows
import GoSem.ClaimSeven
namespace Go.Proofs.YtnkmijidneibnaaDoor
namespace Rows

/-- THE TIED CARD OF 'flightdecklaw56.MaintlogPower'. -/
def maintlogPowerCard : Claim7 := { stood := { row := maintlogPowerRow, standIns := [], harness := (true, "832b923533147a2e716e87db4360d74f12a86c126f950c923bbe595a342cd697"), looks := false }, kinds := [], alts := [], laidByText := true, laidKinds := [.data, .data, .data], laidTests := true, laidLooks := .later }
def MaintlogPowerCardSaid : Prop := Claim7.holds Tryd.pinned (.plain (OpenSpec.ofChange maintlogPowerSpec)) maintlogPowerCard

/-- THE TIED CARD OF 'flightdecklaw56.MaintlogNewest'. -/
def maintlogNewestCard : Claim7 := { stood := { row := maintlogNewestRow, standIns := [], harness := (true, "832b923533147a2e716e87db4360d74f12a86c126f950c923bbe595a342cd697"), looks := false }, kinds := [], alts := [], laidByText := true, laidKinds := [.data, .data, .data], laidTests := true, laidLooks := .later }
def MaintlogNewestCardSaid : Prop := Claim7.holds Tryd.pinned (.plain (OpenSpec.ofChange maintlogNewestSpec)) maintlogNewestCard

/-- THE TIED CARD OF 'flightdecklaw56.MaintlogClears'. -/
def maintlogClearsCard : Claim7 := { stood := { row := maintlogClearsRow, standIns := [], harness := (true, "832b923533147a2e716e87db4360d74f12a86c126f950c923bbe595a342cd697"), looks := false }, kinds := [], alts := [], laidByText := true, laidKinds := [.data, .data, .data], laidTests := true, laidLooks := .later }
def MaintlogClearsCardSaid : Prop := Claim7.holds Tryd.pinned (.plain (OpenSpec.ofChange maintlogClearsSpec)) maintlogClearsCard

/-- THE TIED CARD OF 'flightdecklaw56.MaintlogBroken'. -/
def maintlogBrokenCard : Claim7 := { stood := { row := maintlogBrokenRow, standIns := [], harness := (true, "832b923533147a2e716e87db4360d74f12a86c126f950c923bbe595a342cd697"), looks := false }, kinds := [], alts := [], laidByText := true, laidKinds := [.data, .data, .data], laidTests := true, laidLooks := .later }
def MaintlogBrokenCardSaid : Prop := Claim7.holds Tryd.pinned (.plain (OpenSpec.ofChange maintlogBrokenSpec)) maintlogBrokenCard

/-- THE TIED CARD OF 'flightdecklaw56.MaintlogDamage'. -/
def maintlogDamageCard : Claim7 := { stood := { row := maintlogDamageRow, standIns := [], harness := (true, "832b923533147a2e716e87db4360d74f12a86c126f950c923bbe595a342cd697"), looks := false }, kinds := [], alts := [], laidByText := true, laidKinds := [.data, .data, .data], laidTests := true, laidLooks := .later }
def MaintlogDamageCardSaid : Prop := Claim7.holds Tryd.pinned (.plain (OpenSpec.ofChange maintlogDamageSpec)) maintlogDamageCard

/-- THE TIED CARD OF 'flightdecklaw56.MaintlogPlays'. -/
def maintlogPlaysCard : Claim7 := { stood := { row := maintlogPlaysRow, standIns := [], harness := (true, "832b923533147a2e716e87db4360d74f12a86c126f950c923bbe595a342cd697"), looks := false }, kinds := [], alts := [], laidByText := true, laidKinds := [.data, .data, .data], laidTests := true, laidLooks := .later }
def MaintlogPlaysCardSaid : Prop := Claim7.holds Tryd.pinned (.plain (OpenSpec.ofChange maintlogPlaysSpec)) maintlogPlaysCard

/-- THE TIED CARD OF 'flightdecklaw56.MaintlogNil'. -/
def maintlogNilCard : Claim7 := { stood := { row := maintlogNilRow, standIns := [], harness := (true, "832b923533147a2e716e87db4360d74f12a86c126f950c923bbe595a342cd697"), looks := false }, kinds := [], alts := [], laidByText := true, laidKinds := [.data, .data, .data], laidTests := true, laidLooks := .later }
def MaintlogNilCardSaid : Prop := Claim7.holds Tryd.pinned (.plain (OpenSpec.ofChange maintlogNilSpec)) maintlogNilCard

/-- THE TIED CARD OF 'flightdecklaw56.MaintlogReports'. -/
def maintlogReportsCard : Claim7 := { stood := { row := maintlogReportsRow, standIns := [], harness := (true, "832b923533147a2e716e87db4360d74f12a86c126f950c923bbe595a342cd697"), looks := false }, kinds := [], alts := [], laidByText := true, laidKinds := [.data, .data, .data], laidTests := true, laidLooks := .later }
def MaintlogReportsCardSaid : Prop := Claim7.holds Tryd.pinned (.plain (OpenSpec.ofChange maintlogReportsSpec)) maintlogReportsCard

/-- THE SECOND FORM's CARD OF 'flightdecklaw56.MaintlogPower'. -/
def maintlogPowerUptoCard : Claim7 := { stood := { row := maintlogPowerUptoRow, standIns := [], harness := (true, "832b923533147a2e716e87db4360d74f12a86c126f950c923bbe595a342cd697"), looks := false }, kinds := [], alts := [], laidByText := true, laidKinds := [.data, .data, .data], laidTests := true, laidLooks := .later }
def MaintlogPowerUptoCardSaid : Prop := Claim7.holds Tryd.pinned (.plain (OpenSpec.upto maintlogPowerSpec)) maintlogPowerUptoCard

/-- THE SECOND FORM's CARD OF 'flightdecklaw56.MaintlogNewest'. -/
def maintlogNewestUptoCard : Claim7 := { stood := { row := maintlogNewestUptoRow, standIns := [], harness := (true, "832b923533147a2e716e87db4360d74f12a86c126f950c923bbe595a342cd697"), looks := false }, kinds := [], alts := [], laidByText := true, laidKinds := [.data, .data, .data], laidTests := true, laidLooks := .later }
def MaintlogNewestUptoCardSaid : Prop := Claim7.holds Tryd.pinned (.plain (OpenSpec.upto maintlogNewestSpec)) maintlogNewestUptoCard

/-- THE SECOND FORM's CARD OF 'flightdecklaw56.MaintlogClears'. -/
def maintlogClearsUptoCard : Claim7 := { stood := { row := maintlogClearsUptoRow, standIns := [], harness := (true, "832b923533147a2e716e87db4360d74f12a86c126f950c923bbe595a342cd697"), looks := false }, kinds := [], alts := [], laidByText := true, laidKinds := [.data, .data, .data], laidTests := true, laidLooks := .later }
def MaintlogClearsUptoCardSaid : Prop := Claim7.holds Tryd.pinned (.plain (OpenSpec.upto maintlogClearsSpec)) maintlogClearsUptoCard

/-- THE SECOND FORM's CARD OF 'flightdecklaw56.MaintlogBroken'. -/
def maintlogBrokenUptoCard : Claim7 := { stood := { row := maintlogBrokenUptoRow, standIns := [], harness := (true, "832b923533147a2e716e87db4360d74f12a86c126f950c923bbe595a342cd697"), looks := false }, kinds := [], alts := [], laidByText := true, laidKinds := [.data, .data, .data], laidTests := true, laidLooks := .later }
def MaintlogBrokenUptoCardSaid : Prop := Claim7.holds Tryd.pinned (.plain (OpenSpec.upto maintlogBrokenSpec)) maintlogBrokenUptoCard

/-- THE SECOND FORM's CARD OF 'flightdecklaw56.MaintlogDamage'. -/
def maintlogDamageUptoCard : Claim7 := { stood := { row := maintlogDamageUptoRow, standIns := [], harness := (true, "832b923533147a2e716e87db4360d74f12a86c126f950c923bbe595a342cd697"), looks := false }, kinds := [], alts := [], laidByText := true, laidKinds := [.data, .data, .data], laidTests := true, laidLooks := .later }
def MaintlogDamageUptoCardSaid : Prop := Claim7.holds Tryd.pinned (.plain (OpenSpec.upto maintlogDamageSpec)) maintlogDamageUptoCard

/-- THE SECOND FORM's CARD OF 'flightdecklaw56.MaintlogPlays'. -/
def maintlogPlaysUptoCard : Claim7 := { stood := { row := maintlogPlaysUptoRow, standIns := [], harness := (true, "832b923533147a2e716e87db4360d74f12a86c126f950c923bbe595a342cd697"), looks := false }, kinds := [], alts := [], laidByText := true, laidKinds := [.data, .data, .data], laidTests := true, laidLooks := .later }
def MaintlogPlaysUptoCardSaid : Prop := Claim7.holds Tryd.pinned (.plain (OpenSpec.upto maintlogPlaysSpec)) maintlogPlaysUptoCard

/-- THE SECOND FORM's CARD OF 'flightdecklaw56.MaintlogNil'. -/
def maintlogNilUptoCard : Claim7 := { stood := { row := maintlogNilUptoRow, standIns := [], harness := (true, "832b923533147a2e716e87db4360d74f12a86c126f950c923bbe595a342cd697"), looks := false }, kinds := [], alts := [], laidByText := true, laidKinds := [.data, .data, .data], laidTests := true, laidLooks := .later }
def MaintlogNilUptoCardSaid : Prop := Claim7.holds Tryd.pinned (.plain (OpenSpec.upto maintlogNilSpec)) maintlogNilUptoCard

/-- THE SECOND FORM's CARD OF 'flightdecklaw56.MaintlogReports'. -/
def maintlogReportsUptoCard : Claim7 := { stood := { row := maintlogReportsUptoRow, standIns := [], harness := (true, "832b923533147a2e716e87db4360d74f12a86c126f950c923bbe595a342cd697"), looks := false }, kinds := [], alts := [], laidByText := true, laidKinds := [.data, .data, .data], laidTests := true, laidLooks := .later }
def MaintlogReportsUptoCardSaid : Prop := Claim7.holds Tryd.pinned (.plain (OpenSpec.upto maintlogReportsSpec)) maintlogReportsUptoCard
end Rows
end Go.Proofs.YtnkmijidneibnaaDoor
