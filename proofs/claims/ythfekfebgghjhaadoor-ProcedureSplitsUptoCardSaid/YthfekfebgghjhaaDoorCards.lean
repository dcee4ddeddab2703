/-
  DERIVED. GIVEN WITH THE SEED: THE CARDS: each row of YthfekfebgghjhaaDoorRows.lean that lists a variable, with what it lists TIED to the program's text (the seventh form; the later family's looks); each row that meets fmt, with fmt's text TOLD by the authors' own Lean function (tested against real Go, not proved from fmt's source: count such statements apart). THE CARD IS WHAT COUNTS. Prove the row's statement (the work); the ties are given (YthfekfebgghjhaaDoorTie.lean); close each card by the builder's one call (the guide's Derived/Test/ToyasCard.lean, 'card_holds'). Laid BY PROGRAM, IN A SANDBOX (cutbox-door.mjs). By AI agents, Wed Nov 11 2026. No macro, syntax, notation, axiom, sorry.
-/
import Derived.Test.YthfekfebgghjhaaDoorRows
import GoSem.ClaimSeven
namespace Go.Proofs.YthfekfebgghjhaaDoor
namespace Rows

/-- THE TIED CARD OF 'flightdecklaw17.ProcedureChecks'. -/
def procedureChecksCard : Claim7 := { stood := { row := procedureChecksRow, standIns := [], harness := (true, "83d3d00294ddd795b2857374cdd00c9387ff01a45bef37cbecbff7c4500239ef"), looks := false }, kinds := [], alts := [], laidByText := true, laidKinds := [.data], laidTests := true, laidLooks := .later }
def ProcedureChecksCardSaid : Prop := Claim7.holds Tryd.pinned (.plain (OpenSpec.ofChange procedureChecksSpec)) procedureChecksCard

/-- THE TIED CARD OF 'flightdecklaw17.ProcedureNames'. -/
def procedureNamesCard : Claim7 := { stood := { row := procedureNamesRow, standIns := [], harness := (true, "83d3d00294ddd795b2857374cdd00c9387ff01a45bef37cbecbff7c4500239ef"), looks := false }, kinds := [], alts := [], laidByText := true, laidKinds := [.data], laidTests := true, laidLooks := .later }
def ProcedureNamesCardSaid : Prop := Claim7.holds Tryd.pinned (.plain (OpenSpec.ofChange procedureNamesSpec)) procedureNamesCard

/-- THE TIED CARD OF 'flightdecklaw17.ProcedureJoint'. -/
def procedureJointCard : Claim7 := { stood := { row := procedureJointRow, standIns := [], harness := (true, "83d3d00294ddd795b2857374cdd00c9387ff01a45bef37cbecbff7c4500239ef"), looks := false }, kinds := [], alts := [], laidByText := true, laidKinds := [.data], laidTests := true, laidLooks := .later }
def ProcedureJointCardSaid : Prop := Claim7.holds Tryd.pinned (.plain (OpenSpec.ofChange procedureJointSpec)) procedureJointCard

/-- THE TIED CARD OF 'flightdecklaw17.ProcedureSplits'. -/
def procedureSplitsCard : Claim7 := { stood := { row := procedureSplitsRow, standIns := [], harness := (true, "83d3d00294ddd795b2857374cdd00c9387ff01a45bef37cbecbff7c4500239ef"), looks := false }, kinds := [], alts := [], laidByText := true, laidKinds := [.data], laidTests := true, laidLooks := .later }
def ProcedureSplitsCardSaid : Prop := Claim7.holds Tryd.pinned (.plain (OpenSpec.ofChange procedureSplitsSpec)) procedureSplitsCard

/-- THE TIED CARD OF 'flightdecklaw17.ProcedureExpands'. -/
def procedureExpandsCard : Claim7 := { stood := { row := procedureExpandsRow, standIns := [], harness := (true, "83d3d00294ddd795b2857374cdd00c9387ff01a45bef37cbecbff7c4500239ef"), looks := false }, kinds := [], alts := [], laidByText := true, laidKinds := [.data], laidTests := true, laidLooks := .later }
def ProcedureExpandsCardSaid : Prop := Claim7.holds Tryd.pinned (.plain (OpenSpec.ofChange procedureExpandsSpec)) procedureExpandsCard

/-- THE TIED CARD OF 'flightdecklaw17.ProcedureOrder'. -/
def procedureOrderCard : Claim7 := { stood := { row := procedureOrderRow, standIns := [], harness := (true, "83d3d00294ddd795b2857374cdd00c9387ff01a45bef37cbecbff7c4500239ef"), looks := false }, kinds := [], alts := [], laidByText := true, laidKinds := [.data], laidTests := true, laidLooks := .later }
def ProcedureOrderCardSaid : Prop := Claim7.holds Tryd.pinned (.plain (OpenSpec.ofChange procedureOrderSpec)) procedureOrderCard

/-- THE TIED CARD OF 'flightdecklaw17.ProcedureParts'. -/
def procedurePartsCard : Claim7 := { stood := { row := procedurePartsRow, standIns := [], harness := (true, "83d3d00294ddd795b2857374cdd00c9387ff01a45bef37cbecbff7c4500239ef"), looks := false }, kinds := [], alts := [], laidByText := true, laidKinds := [.data], laidTests := true, laidLooks := .later }
def ProcedurePartsCardSaid : Prop := Claim7.holds Tryd.pinned (.plain (OpenSpec.ofChange procedurePartsSpec)) procedurePartsCard

/-- THE TIED CARD OF 'flightdecklaw17.ProcedureMissed'. -/
def procedureMissedCard : Claim7 := { stood := { row := procedureMissedRow, standIns := [], harness := (true, "83d3d00294ddd795b2857374cdd00c9387ff01a45bef37cbecbff7c4500239ef"), looks := false }, kinds := [], alts := [], laidByText := true, laidKinds := [.data], laidTests := true, laidLooks := .later }
def ProcedureMissedCardSaid : Prop := Claim7.holds Tryd.pinned (.plain (OpenSpec.ofChange procedureMissedSpec)) procedureMissedCard

/-- THE TIED CARD OF 'flightdecklaw17.ProcedureFinds'. -/
def procedureFindsCard : Claim7 := { stood := { row := procedureFindsRow, standIns := [], harness := (true, "83d3d00294ddd795b2857374cdd00c9387ff01a45bef37cbecbff7c4500239ef"), looks := false }, kinds := [], alts := [], laidByText := true, laidKinds := [.data], laidTests := true, laidLooks := .later }
def ProcedureFindsCardSaid : Prop := Claim7.holds Tryd.pinned (.plain (OpenSpec.ofChange procedureFindsSpec)) procedureFindsCard

/-- THE SECOND FORM's CARD OF 'flightdecklaw17.ProcedureChecks'. -/
def procedureChecksUptoCard : Claim7 := { stood := { row := procedureChecksUptoRow, standIns := [], harness := (true, "83d3d00294ddd795b2857374cdd00c9387ff01a45bef37cbecbff7c4500239ef"), looks := false }, kinds := [], alts := [], laidByText := true, laidKinds := [.data], laidTests := true, laidLooks := .later }
def ProcedureChecksUptoCardSaid : Prop := Claim7.holds Tryd.pinned (.plain (OpenSpec.upto procedureChecksSpec)) procedureChecksUptoCard

/-- THE SECOND FORM's CARD OF 'flightdecklaw17.ProcedureNames'. -/
def procedureNamesUptoCard : Claim7 := { stood := { row := procedureNamesUptoRow, standIns := [], harness := (true, "83d3d00294ddd795b2857374cdd00c9387ff01a45bef37cbecbff7c4500239ef"), looks := false }, kinds := [], alts := [], laidByText := true, laidKinds := [.data], laidTests := true, laidLooks := .later }
def ProcedureNamesUptoCardSaid : Prop := Claim7.holds Tryd.pinned (.plain (OpenSpec.upto procedureNamesSpec)) procedureNamesUptoCard

/-- THE SECOND FORM's CARD OF 'flightdecklaw17.ProcedureJoint'. -/
def procedureJointUptoCard : Claim7 := { stood := { row := procedureJointUptoRow, standIns := [], harness := (true, "83d3d00294ddd795b2857374cdd00c9387ff01a45bef37cbecbff7c4500239ef"), looks := false }, kinds := [], alts := [], laidByText := true, laidKinds := [.data], laidTests := true, laidLooks := .later }
def ProcedureJointUptoCardSaid : Prop := Claim7.holds Tryd.pinned (.plain (OpenSpec.upto procedureJointSpec)) procedureJointUptoCard

/-- THE SECOND FORM's CARD OF 'flightdecklaw17.ProcedureSplits'. -/
def procedureSplitsUptoCard : Claim7 := { stood := { row := procedureSplitsUptoRow, standIns := [], harness := (true, "83d3d00294ddd795b2857374cdd00c9387ff01a45bef37cbecbff7c4500239ef"), looks := false }, kinds := [], alts := [], laidByText := true, laidKinds := [.data], laidTests := true, laidLooks := .later }
def ProcedureSplitsUptoCardSaid : Prop := Claim7.holds Tryd.pinned (.plain (OpenSpec.upto procedureSplitsSpec)) procedureSplitsUptoCard

/-- THE SECOND FORM's CARD OF 'flightdecklaw17.ProcedureExpands'. -/
def procedureExpandsUptoCard : Claim7 := { stood := { row := procedureExpandsUptoRow, standIns := [], harness := (true, "83d3d00294ddd795b2857374cdd00c9387ff01a45bef37cbecbff7c4500239ef"), looks := false }, kinds := [], alts := [], laidByText := true, laidKinds := [.data], laidTests := true, laidLooks := .later }
def ProcedureExpandsUptoCardSaid : Prop := Claim7.holds Tryd.pinned (.plain (OpenSpec.upto procedureExpandsSpec)) procedureExpandsUptoCard

/-- THE SECOND FORM's CARD OF 'flightdecklaw17.ProcedureOrder'. -/
def procedureOrderUptoCard : Claim7 := { stood := { row := procedureOrderUptoRow, standIns := [], harness := (true, "83d3d00294ddd795b2857374cdd00c9387ff01a45bef37cbecbff7c4500239ef"), looks := false }, kinds := [], alts := [], laidByText := true, laidKinds := [.data], laidTests := true, laidLooks := .later }
def ProcedureOrderUptoCardSaid : Prop := Claim7.holds Tryd.pinned (.plain (OpenSpec.upto procedureOrderSpec)) procedureOrderUptoCard

/-- THE SECOND FORM's CARD OF 'flightdecklaw17.ProcedureParts'. -/
def procedurePartsUptoCard : Claim7 := { stood := { row := procedurePartsUptoRow, standIns := [], harness := (true, "83d3d00294ddd795b2857374cdd00c9387ff01a45bef37cbecbff7c4500239ef"), looks := false }, kinds := [], alts := [], laidByText := true, laidKinds := [.data], laidTests := true, laidLooks := .later }
def ProcedurePartsUptoCardSaid : Prop := Claim7.holds Tryd.pinned (.plain (OpenSpec.upto procedurePartsSpec)) procedurePartsUptoCard

/-- THE SECOND FORM's CARD OF 'flightdecklaw17.ProcedureMissed'. -/
def procedureMissedUptoCard : Claim7 := { stood := { row := procedureMissedUptoRow, standIns := [], harness := (true, "83d3d00294ddd795b2857374cdd00c9387ff01a45bef37cbecbff7c4500239ef"), looks := false }, kinds := [], alts := [], laidByText := true, laidKinds := [.data], laidTests := true, laidLooks := .later }
def ProcedureMissedUptoCardSaid : Prop := Claim7.holds Tryd.pinned (.plain (OpenSpec.upto procedureMissedSpec)) procedureMissedUptoCard

/-- THE SECOND FORM's CARD OF 'flightdecklaw17.ProcedureFinds'. -/
def procedureFindsUptoCard : Claim7 := { stood := { row := procedureFindsUptoRow, standIns := [], harness := (true, "83d3d00294ddd795b2857374cdd00c9387ff01a45bef37cbecbff7c4500239ef"), looks := false }, kinds := [], alts := [], laidByText := true, laidKinds := [.data], laidTests := true, laidLooks := .later }
def ProcedureFindsUptoCardSaid : Prop := Claim7.holds Tryd.pinned (.plain (OpenSpec.upto procedureFindsSpec)) procedureFindsUptoCard
end Rows
end Go.Proofs.YthfekfebgghjhaaDoor
