/-
  NARROWER THAN 'FOR EVERY INPUT', by the rows' own cells (each row's printed sentence says how): ProcedureChecks: laid · ProcedureNames: laid · ProcedureJoint: laid · ProcedureSplits: laid · ProcedureExpands: laid · ProcedureOrder: laid · ProcedureParts: laid · ProcedureMissed: laid · ProcedureFinds: laid.
  DERIVED. THE GIVEN ROWS OF THIS SEAT. 9 by the template 'for every input the law returns true; each argument reads behind the call as it read before'; 0 by the template 'total and deterministic' (their statements: YthfekfebgghjhaaDoorTotals.lean).
  GIVEN WITH THE SEED: the statements are not yours to turn. If you find one false, say at which input.
  Laid BY PROGRAM, IN A SANDBOX (cutbox-rows.mjs): the forced cells as the released guide's own fill.sh prints them over the translation 00bc802aba0340df… (all of the seat's roots in one cut). By AI agents, Wed Nov 11 2026. No macro, syntax, notation, axiom, sorry.
-/
import Derived.Test.YthfekfebgghjhaaDoorChecked
import GoSem.Claim
import GoSem.ClaimJoined
import GoSem.ClaimMapViews
import Derived.JoinedTies
import Derived.KernelRfl
namespace Go.Proofs.YthfekfebgghjhaaDoor
/- THE CELL 'sum', in the pinned program and in every row, IS THE sha256 OF THE DUMP (.gsa) THAT YthfekfebgghjhaaDoorProg.lean LOADS. Nothing in Lean hashes anything: it is a label: what it is worth is what the hold of that sum in a sandbox is worth. -/
noncomputable def Tryd.pinned : Pinned := { name := "ythfekfebgghjhaadoor", sum := "00bc802aba0340df64e1fbd14f7f4a5f434ddcfdb15677994ff6139f6a407532", checked := Tryd.checked }
namespace Rows
def none {H : Type} : Left H := { results := [], args := [] }

/- WHAT THE LISTED PACKAGE-LEVEL VARIABLES READ AS WHEN THE CALL BEGINS. Each datum BY PROGRAM (the guide's laid-datum.mjs) off the statement by which the dump's own 'gosem.cut.vars' lays the variable. In a bare row this is a premise. The card (YthfekfebgghjhaaDoorCards.lean) ties it to the program's text. -/
def laid_flightdeck_leg_uses {H : Type} : DataW H := .agg [.lit (.int .u16 0), .lit (.int .u16 1), .lit (.int .u16 9), .lit (.int .u16 25), .lit (.int .u16 9), .lit (.int .u16 71), .lit (.int .u16 71), .lit (.int .u16 16), .lit (.int .u16 50), .lit (.int .u16 16), .lit (.int .u16 146), .lit (.int .u16 17), .lit (.int .u16 49), .lit (.int .u16 17), .lit (.int .u16 53), .lit (.int .u16 53), .lit (.int .u16 53), .lit (.int .u16 53)]

/-- 'flightdecklaw17.ProcedureChecks': WHATEVER THE INPUT: true; the input reads as it did. -/
def procedureChecksSpec : ChangeSpec := { name := "procedureChecks", fn := fun _ => fun
  | [d] => { results := [.lit (.bool true)], args := [d] }
  | _ => none }
def procedureChecksRow : OpenClaim := { program := "ythfekfebgghjhaadoor", sum := "00bc802aba0340df64e1fbd14f7f4a5f434ddcfdb15677994ff6139f6a407532", func := "flightdeck/flightdecklaw17.ProcedureChecks", spec := "procedureChecks", inPlace := ["internal/bytealg.IndexByteString", "internal/bytealg.IndexString", "internal/bytealg.abigen_runtime_cmpstring"], named := ["flightdeck/leg.uses", "internal/bytealg.MaxLen"], apart := false, laid := [("flightdeck/leg.uses", laid_flightdeck_leg_uses)] }
def ProcedureChecksSaid : Prop := procedureChecksRow.holds Tryd.pinned (OpenSpec.ofChange procedureChecksSpec)

/-- ITS FALSE NEIGHBOUR: 'it returns false'. Refute it at one input. -/
def procedureChecksWrong : ChangeSpec := { name := "procedureChecks", fn := fun _ => fun
  | [d] => { results := [.lit (.bool false)], args := [d] }
  | _ => none }
def ProcedureChecksWrongFalsely : Prop := procedureChecksRow.holds Tryd.pinned (OpenSpec.ofChange procedureChecksWrong)

/-- 'flightdecklaw17.ProcedureNames': WHATEVER THE INPUT: true; the input reads as it did. -/
def procedureNamesSpec : ChangeSpec := { name := "procedureNames", fn := fun _ => fun
  | [d1, d2, d3] => { results := [.lit (.bool true)], args := [d1, d2, d3] }
  | _ => none }
def procedureNamesRow : OpenClaim := { program := "ythfekfebgghjhaadoor", sum := "00bc802aba0340df64e1fbd14f7f4a5f434ddcfdb15677994ff6139f6a407532", func := "flightdeck/flightdecklaw17.ProcedureNames", spec := "procedureNames", inPlace := ["internal/bytealg.IndexByteString", "internal/bytealg.IndexString", "internal/bytealg.abigen_runtime_cmpstring"], named := ["flightdeck/leg.uses", "internal/bytealg.MaxLen"], apart := false, laid := [("flightdeck/leg.uses", laid_flightdeck_leg_uses)] }
def ProcedureNamesSaid : Prop := procedureNamesRow.holds Tryd.pinned (OpenSpec.ofChange procedureNamesSpec)

/-- ITS FALSE NEIGHBOUR: 'it returns false'. Refute it at one input. -/
def procedureNamesWrong : ChangeSpec := { name := "procedureNames", fn := fun _ => fun
  | [d1, d2, d3] => { results := [.lit (.bool false)], args := [d1, d2, d3] }
  | _ => none }
def ProcedureNamesWrongFalsely : Prop := procedureNamesRow.holds Tryd.pinned (OpenSpec.ofChange procedureNamesWrong)

/-- 'flightdecklaw17.ProcedureJoint': WHATEVER THE INPUT: true; the input reads as it did. -/
def procedureJointSpec : ChangeSpec := { name := "procedureJoint", fn := fun _ => fun
  | [d1, d2] => { results := [.lit (.bool true)], args := [d1, d2] }
  | _ => none }
def procedureJointRow : OpenClaim := { program := "ythfekfebgghjhaadoor", sum := "00bc802aba0340df64e1fbd14f7f4a5f434ddcfdb15677994ff6139f6a407532", func := "flightdeck/flightdecklaw17.ProcedureJoint", spec := "procedureJoint", inPlace := ["internal/bytealg.IndexByteString", "internal/bytealg.IndexString", "internal/bytealg.abigen_runtime_cmpstring"], named := ["flightdeck/leg.uses", "internal/bytealg.MaxLen"], apart := false, laid := [("flightdeck/leg.uses", laid_flightdeck_leg_uses)] }
def ProcedureJointSaid : Prop := procedureJointRow.holds Tryd.pinned (OpenSpec.ofChange procedureJointSpec)

/-- ITS FALSE NEIGHBOUR: 'it returns false'. Refute it at one input. -/
def procedureJointWrong : ChangeSpec := { name := "procedureJoint", fn := fun _ => fun
  | [d1, d2] => { results := [.lit (.bool false)], args := [d1, d2] }
  | _ => none }
def ProcedureJointWrongFalsely : Prop := procedureJointRow.holds Tryd.pinned (OpenSpec.ofChange procedureJointWrong)

/-- 'flightdecklaw17.ProcedureSplits': WHATEVER THE INPUT: true; the input reads as it did. -/
def procedureSplitsSpec : ChangeSpec := { name := "procedureSplits", fn := fun _ => fun
  | [d1, d2] => { results := [.lit (.bool true)], args := [d1, d2] }
  | _ => none }
def procedureSplitsRow : OpenClaim := { program := "ythfekfebgghjhaadoor", sum := "00bc802aba0340df64e1fbd14f7f4a5f434ddcfdb15677994ff6139f6a407532", func := "flightdeck/flightdecklaw17.ProcedureSplits", spec := "procedureSplits", inPlace := ["internal/bytealg.IndexByteString", "internal/bytealg.IndexString", "internal/bytealg.abigen_runtime_cmpstring"], named := ["flightdeck/leg.uses", "internal/bytealg.MaxLen"], apart := false, laid := [("flightdeck/leg.uses", laid_flightdeck_leg_uses)] }
def ProcedureSplitsSaid : Prop := procedureSplitsRow.holds Tryd.pinned (OpenSpec.ofChange procedureSplitsSpec)

/-- ITS FALSE NEIGHBOUR: 'it returns false'. Refute it at one input. -/
def procedureSplitsWrong : ChangeSpec := { name := "procedureSplits", fn := fun _ => fun
  | [d1, d2] => { results := [.lit (.bool false)], args := [d1, d2] }
  | _ => none }
def ProcedureSplitsWrongFalsely : Prop := procedureSplitsRow.holds Tryd.pinned (OpenSpec.ofChange procedureSplitsWrong)

/-- 'flightdecklaw17.ProcedureExpands': WHATEVER THE INPUT: true; the input reads as it did. -/
def procedureExpandsSpec : ChangeSpec := { name := "procedureExpands", fn := fun _ => fun
  | [d1, d2, d3] => { results := [.lit (.bool true)], args := [d1, d2, d3] }
  | _ => none }
def procedureExpandsRow : OpenClaim := { program := "ythfekfebgghjhaadoor", sum := "00bc802aba0340df64e1fbd14f7f4a5f434ddcfdb15677994ff6139f6a407532", func := "flightdeck/flightdecklaw17.ProcedureExpands", spec := "procedureExpands", inPlace := ["internal/bytealg.IndexByteString", "internal/bytealg.IndexString", "internal/bytealg.abigen_runtime_cmpstring"], named := ["flightdeck/leg.uses", "internal/bytealg.MaxLen"], apart := false, laid := [("flightdeck/leg.uses", laid_flightdeck_leg_uses)] }
def ProcedureExpandsSaid : Prop := procedureExpandsRow.holds Tryd.pinned (OpenSpec.ofChange procedureExpandsSpec)

/-- ITS FALSE NEIGHBOUR: 'it returns false'. Refute it at one input. -/
def procedureExpandsWrong : ChangeSpec := { name := "procedureExpands", fn := fun _ => fun
  | [d1, d2, d3] => { results := [.lit (.bool false)], args := [d1, d2, d3] }
  | _ => none }
def ProcedureExpandsWrongFalsely : Prop := procedureExpandsRow.holds Tryd.pinned (OpenSpec.ofChange procedureExpandsWrong)

/-- 'flightdecklaw17.ProcedureOrder': WHATEVER THE INPUT: true; the input reads as it did. -/
def procedureOrderSpec : ChangeSpec := { name := "procedureOrder", fn := fun _ => fun
  | [d1, d2, d3] => { results := [.lit (.bool true)], args := [d1, d2, d3] }
  | _ => none }
def procedureOrderRow : OpenClaim := { program := "ythfekfebgghjhaadoor", sum := "00bc802aba0340df64e1fbd14f7f4a5f434ddcfdb15677994ff6139f6a407532", func := "flightdeck/flightdecklaw17.ProcedureOrder", spec := "procedureOrder", inPlace := ["internal/bytealg.IndexByteString", "internal/bytealg.IndexString", "internal/bytealg.abigen_runtime_cmpstring"], named := ["flightdeck/leg.uses", "internal/bytealg.MaxLen"], apart := false, laid := [("flightdeck/leg.uses", laid_flightdeck_leg_uses)] }
def ProcedureOrderSaid : Prop := procedureOrderRow.holds Tryd.pinned (OpenSpec.ofChange procedureOrderSpec)

/-- ITS FALSE NEIGHBOUR: 'it returns false'. Refute it at one input. -/
def procedureOrderWrong : ChangeSpec := { name := "procedureOrder", fn := fun _ => fun
  | [d1, d2, d3] => { results := [.lit (.bool false)], args := [d1, d2, d3] }
  | _ => none }
def ProcedureOrderWrongFalsely : Prop := procedureOrderRow.holds Tryd.pinned (OpenSpec.ofChange procedureOrderWrong)

/-- 'flightdecklaw17.ProcedureParts': WHATEVER THE INPUT: true; the input reads as it did. -/
def procedurePartsSpec : ChangeSpec := { name := "procedureParts", fn := fun _ => fun
  | [d1, d2, d3] => { results := [.lit (.bool true)], args := [d1, d2, d3] }
  | _ => none }
def procedurePartsRow : OpenClaim := { program := "ythfekfebgghjhaadoor", sum := "00bc802aba0340df64e1fbd14f7f4a5f434ddcfdb15677994ff6139f6a407532", func := "flightdeck/flightdecklaw17.ProcedureParts", spec := "procedureParts", inPlace := ["internal/bytealg.IndexByteString", "internal/bytealg.IndexString", "internal/bytealg.abigen_runtime_cmpstring"], named := ["flightdeck/leg.uses", "internal/bytealg.MaxLen"], apart := false, laid := [("flightdeck/leg.uses", laid_flightdeck_leg_uses)] }
def ProcedurePartsSaid : Prop := procedurePartsRow.holds Tryd.pinned (OpenSpec.ofChange procedurePartsSpec)

/-- ITS FALSE NEIGHBOUR: 'it returns false'. Refute it at one input. -/
def procedurePartsWrong : ChangeSpec := { name := "procedureParts", fn := fun _ => fun
  | [d1, d2, d3] => { results := [.lit (.bool false)], args := [d1, d2, d3] }
  | _ => none }
def ProcedurePartsWrongFalsely : Prop := procedurePartsRow.holds Tryd.pinned (OpenSpec.ofChange procedurePartsWrong)

/-- 'flightdecklaw17.ProcedureMissed': WHATEVER THE INPUT: true; the input reads as it did. -/
def procedureMissedSpec : ChangeSpec := { name := "procedureMissed", fn := fun _ => fun
  | [d] => { results := [.lit (.bool true)], args := [d] }
  | _ => none }
def procedureMissedRow : OpenClaim := { program := "ythfekfebgghjhaadoor", sum := "00bc802aba0340df64e1fbd14f7f4a5f434ddcfdb15677994ff6139f6a407532", func := "flightdeck/flightdecklaw17.ProcedureMissed", spec := "procedureMissed", inPlace := ["internal/bytealg.IndexByteString", "internal/bytealg.IndexString", "internal/bytealg.abigen_runtime_cmpstring"], named := ["flightdeck/leg.uses", "internal/bytealg.MaxLen"], apart := false, laid := [("flightdeck/leg.uses", laid_flightdeck_leg_uses)] }
def ProcedureMissedSaid : Prop := procedureMissedRow.holds Tryd.pinned (OpenSpec.ofChange procedureMissedSpec)

/-- ITS FALSE NEIGHBOUR: 'it returns false'. Refute it at one input. -/
def procedureMissedWrong : ChangeSpec := { name := "procedureMissed", fn := fun _ => fun
  | [d] => { results := [.lit (.bool false)], args := [d] }
  | _ => none }
def ProcedureMissedWrongFalsely : Prop := procedureMissedRow.holds Tryd.pinned (OpenSpec.ofChange procedureMissedWrong)

/-- 'flightdecklaw17.ProcedureFinds': WHATEVER THE INPUT: true; the input reads as it did. -/
def procedureFindsSpec : ChangeSpec := { name := "procedureFinds", fn := fun _ => fun
  | [d1, d2, d3] => { results := [.lit (.bool true)], args := [d1, d2, d3] }
  | _ => none }
def procedureFindsRow : OpenClaim := { program := "ythfekfebgghjhaadoor", sum := "00bc802aba0340df64e1fbd14f7f4a5f434ddcfdb15677994ff6139f6a407532", func := "flightdeck/flightdecklaw17.ProcedureFinds", spec := "procedureFinds", inPlace := ["internal/bytealg.IndexByteString", "internal/bytealg.IndexString", "internal/bytealg.abigen_runtime_cmpstring"], unfollowed := true, recurses := true, named := ["flightdeck/leg.uses", "internal/bytealg.MaxLen"], apart := false, laid := [("flightdeck/leg.uses", laid_flightdeck_leg_uses)] }
def ProcedureFindsSaid : Prop := procedureFindsRow.holds Tryd.pinned (OpenSpec.ofChange procedureFindsSpec)

/-- ITS FALSE NEIGHBOUR: 'it returns false'. Refute it at one input. -/
def procedureFindsWrong : ChangeSpec := { name := "procedureFinds", fn := fun _ => fun
  | [d1, d2, d3] => { results := [.lit (.bool false)], args := [d1, d2, d3] }
  | _ => none }
def ProcedureFindsWrongFalsely : Prop := procedureFindsRow.holds Tryd.pinned (OpenSpec.ofChange procedureFindsWrong)

/- THE SECOND FORM. 'bulk': how many values and letters a reading holds, each counted each time it is reached (what is shared counts as often as it is met; a slice's spare places count too). A statement '..UptoSaid' is the law's where the arguments, and the package variables that the reading takes, are together of bulk at most 1048576: NARROWER than '..Said'. Prove '..Said' where nothing that the law and all that it calls make is longer than what came in: it says more and counts as full. Else prove '..UptoSaid'. A law counts once. -/
mutual
def uptoBulk {H : Type} : DataW H → Nat
  | .lit (.string bytes) => bytes.length + 1
  | .lit _ => 1
  | .nil => 1
  | .ptr d => uptoBulk d + 1
  | .slice elems spare => uptoBulkAll elems + uptoBulkAll spare + 1
  | .agg parts => uptoBulkAll parts + 1
  | .iface _ d => uptoBulk d + 1
  | .map entries => uptoBulkEntries entries + 1
  | .held _ => 1
def uptoBulkAll {H : Type} : List (DataW H) → Nat
  | [] => 0
  | d :: r => uptoBulk d + uptoBulkAll r
def uptoBulkEntries {H : Type} : List (Lit × DataW H) → Nat
  | [] => 0
  | x :: r => uptoBulkEntry x + uptoBulkEntries r
def uptoBulkEntry {H : Type} : Lit × DataW H → Nat
  | (.string bytes, d) => bytes.length + uptoBulk d + 1
  | (_, d) => uptoBulk d + 1
 end
def uptoSmall : (H : Type) → List (DataW H) → Bool := fun _ ds => decide (uptoBulkAll ds ≤ 1048576)
def OpenSpec.upto (s : _root_.Go.ChangeSpec) : _root_.Go.OpenSpec := { _root_.Go.OpenSpec.ofChange s with cond := some uptoSmall }

/-- 'flightdecklaw17.ProcedureChecks', WHERE WHAT IT READS IS OF BULK AT MOST 1048576: true; the input reads as it did. -/
def procedureChecksUptoRow : OpenClaim := { program := "ythfekfebgghjhaadoor", sum := "00bc802aba0340df64e1fbd14f7f4a5f434ddcfdb15677994ff6139f6a407532", func := "flightdeck/flightdecklaw17.ProcedureChecks", spec := "procedureChecks", inPlace := ["internal/bytealg.IndexByteString", "internal/bytealg.IndexString", "internal/bytealg.abigen_runtime_cmpstring"], named := ["flightdeck/leg.uses", "internal/bytealg.MaxLen"], apart := false, laid := [("flightdeck/leg.uses", laid_flightdeck_leg_uses)], narrowed := true }
def ProcedureChecksUptoSaid : Prop := procedureChecksUptoRow.holds Tryd.pinned (OpenSpec.upto procedureChecksSpec)

/-- 'flightdecklaw17.ProcedureNames', WHERE WHAT IT READS IS OF BULK AT MOST 1048576: true; the input reads as it did. -/
def procedureNamesUptoRow : OpenClaim := { program := "ythfekfebgghjhaadoor", sum := "00bc802aba0340df64e1fbd14f7f4a5f434ddcfdb15677994ff6139f6a407532", func := "flightdeck/flightdecklaw17.ProcedureNames", spec := "procedureNames", inPlace := ["internal/bytealg.IndexByteString", "internal/bytealg.IndexString", "internal/bytealg.abigen_runtime_cmpstring"], named := ["flightdeck/leg.uses", "internal/bytealg.MaxLen"], apart := false, laid := [("flightdeck/leg.uses", laid_flightdeck_leg_uses)], narrowed := true }
def ProcedureNamesUptoSaid : Prop := procedureNamesUptoRow.holds Tryd.pinned (OpenSpec.upto procedureNamesSpec)

/-- 'flightdecklaw17.ProcedureJoint', WHERE WHAT IT READS IS OF BULK AT MOST 1048576: true; the input reads as it did. -/
def procedureJointUptoRow : OpenClaim := { program := "ythfekfebgghjhaadoor", sum := "00bc802aba0340df64e1fbd14f7f4a5f434ddcfdb15677994ff6139f6a407532", func := "flightdeck/flightdecklaw17.ProcedureJoint", spec := "procedureJoint", inPlace := ["internal/bytealg.IndexByteString", "internal/bytealg.IndexString", "internal/bytealg.abigen_runtime_cmpstring"], named := ["flightdeck/leg.uses", "internal/bytealg.MaxLen"], apart := false, laid := [("flightdeck/leg.uses", laid_flightdeck_leg_uses)], narrowed := true }
def ProcedureJointUptoSaid : Prop := procedureJointUptoRow.holds Tryd.pinned (OpenSpec.upto procedureJointSpec)

/-- 'flightdecklaw17.ProcedureSplits', WHERE WHAT IT READS IS OF BULK AT MOST 1048576: true; the input reads as it did. -/
def procedureSplitsUptoRow : OpenClaim := { program := "ythfekfebgghjhaadoor", sum := "00bc802aba0340df64e1fbd14f7f4a5f434ddcfdb15677994ff6139f6a407532", func := "flightdeck/flightdecklaw17.ProcedureSplits", spec := "procedureSplits", inPlace := ["internal/bytealg.IndexByteString", "internal/bytealg.IndexString", "internal/bytealg.abigen_runtime_cmpstring"], named := ["flightdeck/leg.uses", "internal/bytealg.MaxLen"], apart := false, laid := [("flightdeck/leg.uses", laid_flightdeck_leg_uses)], narrowed := true }
def ProcedureSplitsUptoSaid : Prop := procedureSplitsUptoRow.holds Tryd.pinned (OpenSpec.upto procedureSplitsSpec)

/-- 'flightdecklaw17.ProcedureExpands', WHERE WHAT IT READS IS OF BULK AT MOST 1048576: true; the input reads as it did. -/
def procedureExpandsUptoRow : OpenClaim := { program := "ythfekfebgghjhaadoor", sum := "00bc802aba0340df64e1fbd14f7f4a5f434ddcfdb15677994ff6139f6a407532", func := "flightdeck/flightdecklaw17.ProcedureExpands", spec := "procedureExpands", inPlace := ["internal/bytealg.IndexByteString", "internal/bytealg.IndexString", "internal/bytealg.abigen_runtime_cmpstring"], named := ["flightdeck/leg.uses", "internal/bytealg.MaxLen"], apart := false, laid := [("flightdeck/leg.uses", laid_flightdeck_leg_uses)], narrowed := true }
def ProcedureExpandsUptoSaid : Prop := procedureExpandsUptoRow.holds Tryd.pinned (OpenSpec.upto procedureExpandsSpec)

/-- 'flightdecklaw17.ProcedureOrder', WHERE WHAT IT READS IS OF BULK AT MOST 1048576: true; the input reads as it did. -/
def procedureOrderUptoRow : OpenClaim := { program := "ythfekfebgghjhaadoor", sum := "00bc802aba0340df64e1fbd14f7f4a5f434ddcfdb15677994ff6139f6a407532", func := "flightdeck/flightdecklaw17.ProcedureOrder", spec := "procedureOrder", inPlace := ["internal/bytealg.IndexByteString", "internal/bytealg.IndexString", "internal/bytealg.abigen_runtime_cmpstring"], named := ["flightdeck/leg.uses", "internal/bytealg.MaxLen"], apart := false, laid := [("flightdeck/leg.uses", laid_flightdeck_leg_uses)], narrowed := true }
def ProcedureOrderUptoSaid : Prop := procedureOrderUptoRow.holds Tryd.pinned (OpenSpec.upto procedureOrderSpec)

/-- 'flightdecklaw17.ProcedureParts', WHERE WHAT IT READS IS OF BULK AT MOST 1048576: true; the input reads as it did. -/
def procedurePartsUptoRow : OpenClaim := { program := "ythfekfebgghjhaadoor", sum := "00bc802aba0340df64e1fbd14f7f4a5f434ddcfdb15677994ff6139f6a407532", func := "flightdeck/flightdecklaw17.ProcedureParts", spec := "procedureParts", inPlace := ["internal/bytealg.IndexByteString", "internal/bytealg.IndexString", "internal/bytealg.abigen_runtime_cmpstring"], named := ["flightdeck/leg.uses", "internal/bytealg.MaxLen"], apart := false, laid := [("flightdeck/leg.uses", laid_flightdeck_leg_uses)], narrowed := true }
def ProcedurePartsUptoSaid : Prop := procedurePartsUptoRow.holds Tryd.pinned (OpenSpec.upto procedurePartsSpec)

/-- 'flightdecklaw17.ProcedureMissed', WHERE WHAT IT READS IS OF BULK AT MOST 1048576: true; the input reads as it did. -/
def procedureMissedUptoRow : OpenClaim := { program := "ythfekfebgghjhaadoor", sum := "00bc802aba0340df64e1fbd14f7f4a5f434ddcfdb15677994ff6139f6a407532", func := "flightdeck/flightdecklaw17.ProcedureMissed", spec := "procedureMissed", inPlace := ["internal/bytealg.IndexByteString", "internal/bytealg.IndexString", "internal/bytealg.abigen_runtime_cmpstring"], named := ["flightdeck/leg.uses", "internal/bytealg.MaxLen"], apart := false, laid := [("flightdeck/leg.uses", laid_flightdeck_leg_uses)], narrowed := true }
def ProcedureMissedUptoSaid : Prop := procedureMissedUptoRow.holds Tryd.pinned (OpenSpec.upto procedureMissedSpec)

/-- 'flightdecklaw17.ProcedureFinds', WHERE WHAT IT READS IS OF BULK AT MOST 1048576: true; the input reads as it did. -/
def procedureFindsUptoRow : OpenClaim := { program := "ythfekfebgghjhaadoor", sum := "00bc802aba0340df64e1fbd14f7f4a5f434ddcfdb15677994ff6139f6a407532", func := "flightdeck/flightdecklaw17.ProcedureFinds", spec := "procedureFinds", inPlace := ["internal/bytealg.IndexByteString", "internal/bytealg.IndexString", "internal/bytealg.abigen_runtime_cmpstring"], unfollowed := true, recurses := true, named := ["flightdeck/leg.uses", "internal/bytealg.MaxLen"], apart := false, laid := [("flightdeck/leg.uses", laid_flightdeck_leg_uses)], narrowed := true }
def ProcedureFindsUptoSaid : Prop := procedureFindsUptoRow.holds Tryd.pinned (OpenSpec.upto procedureFindsSpec)

end Rows
end Go.Proofs.YthfekfebgghjhaaDoor
