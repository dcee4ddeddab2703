/-
  No cell of these rows narrows 'for every input' (looked for: loops, veiled, ifaces, maps, wideKeys, modest, calm, conditions, laid).
  DERIVED. THE GIVEN ROWS OF THIS SEAT. 7 by the template 'for every input the law returns true; each argument reads behind the call as it read before'; 0 by the template 'total and deterministic' (their statements: YtfhchendnfpbkaaTotals.lean).
  GIVEN WITH THE SEED: the statements are not yours to turn. If you find one false, say at which input.
  Laid BY PROGRAM, IN A SANDBOX (cutbox-rows.mjs): the forced cells as the released guide's own fill.sh prints them over the translation 791d9b2ea1902215… (all of the seat's roots in one cut). By AI agents, Wed Nov 11 2026. No macro, syntax, notation, axiom, sorry.
-/
import Derived.Test.YtfhchendnfpbkaaChecked
import GoSem.Claim
import GoSem.ClaimJoined
import GoSem.ClaimMapViews
import Derived.JoinedTies
import Derived.KernelRfl
namespace Go.Proofs.Ytfhchendnfpbkaa
/- THE CELL 'sum', in the pinned program and in every row, IS THE sha256 OF THE DUMP (.gsa) THAT YtfhchendnfpbkaaProg.lean LOADS. Nothing in Lean hashes anything: it is a label: what it is worth is what the hold of that sum in a sandbox is worth. -/
noncomputable def Try.pinned : Pinned := { name := "ytfhchendnfpbkaa", sum := "791d9b2ea1902215a7d332eca082267a190ae024a24fe419f8374758deb39a5c", checked := Try.checked }
namespace Rows
def none {H : Type} : Left H := { results := [], args := [] }

/-- 'flightdecklaw55.AlertChecks': WHATEVER THE INPUT: true; the input reads as it did. -/
def alertChecksSpec : ChangeSpec := { name := "alertChecks", fn := fun _ => fun
  | [d] => { results := [.lit (.bool true)], args := [d] }
  | _ => none }
def alertChecksRow : OpenClaim := { program := "ytfhchendnfpbkaa", sum := "791d9b2ea1902215a7d332eca082267a190ae024a24fe419f8374758deb39a5c", func := "flightdeck/flightdecklaw55.AlertChecks", spec := "alertChecks", unfollowed := true, recurses := true, apart := false }
def AlertChecksSaid : Prop := alertChecksRow.holds Try.pinned (OpenSpec.ofChange alertChecksSpec)

/-- ITS FALSE NEIGHBOUR: 'it returns false'. Refute it at one input. -/
def alertChecksWrong : ChangeSpec := { name := "alertChecks", fn := fun _ => fun
  | [d] => { results := [.lit (.bool false)], args := [d] }
  | _ => none }
def AlertChecksWrongFalsely : Prop := alertChecksRow.holds Try.pinned (OpenSpec.ofChange alertChecksWrong)

/-- 'flightdecklaw55.AlertStandard': WHATEVER THE INPUT: true; the input reads as it did. -/
def alertStandardSpec : ChangeSpec := { name := "alertStandard", fn := fun _ => fun
  | [d] => { results := [.lit (.bool true)], args := [d] }
  | _ => none }
def alertStandardRow : OpenClaim := { program := "ytfhchendnfpbkaa", sum := "791d9b2ea1902215a7d332eca082267a190ae024a24fe419f8374758deb39a5c", func := "flightdeck/flightdecklaw55.AlertStandard", spec := "alertStandard", unfollowed := true, recurses := true, apart := false }
def AlertStandardSaid : Prop := alertStandardRow.holds Try.pinned (OpenSpec.ofChange alertStandardSpec)

/-- ITS FALSE NEIGHBOUR: 'it returns false'. Refute it at one input. -/
def alertStandardWrong : ChangeSpec := { name := "alertStandard", fn := fun _ => fun
  | [d] => { results := [.lit (.bool false)], args := [d] }
  | _ => none }
def AlertStandardWrongFalsely : Prop := alertStandardRow.holds Try.pinned (OpenSpec.ofChange alertStandardWrong)

/-- 'flightdecklaw55.AlertShows': WHATEVER THE INPUT: true; the input reads as it did. -/
def alertShowsSpec : ChangeSpec := { name := "alertShows", fn := fun _ => fun
  | [d] => { results := [.lit (.bool true)], args := [d] }
  | _ => none }
def alertShowsRow : OpenClaim := { program := "ytfhchendnfpbkaa", sum := "791d9b2ea1902215a7d332eca082267a190ae024a24fe419f8374758deb39a5c", func := "flightdeck/flightdecklaw55.AlertShows", spec := "alertShows", unfollowed := true, recurses := true, apart := false }
def AlertShowsSaid : Prop := alertShowsRow.holds Try.pinned (OpenSpec.ofChange alertShowsSpec)

/-- ITS FALSE NEIGHBOUR: 'it returns false'. Refute it at one input. -/
def alertShowsWrong : ChangeSpec := { name := "alertShows", fn := fun _ => fun
  | [d] => { results := [.lit (.bool false)], args := [d] }
  | _ => none }
def AlertShowsWrongFalsely : Prop := alertShowsRow.holds Try.pinned (OpenSpec.ofChange alertShowsWrong)

/-- 'flightdecklaw55.AlertOrders': WHATEVER THE INPUT: true; the input reads as it did. -/
def alertOrdersSpec : ChangeSpec := { name := "alertOrders", fn := fun _ => fun
  | [d] => { results := [.lit (.bool true)], args := [d] }
  | _ => none }
def alertOrdersRow : OpenClaim := { program := "ytfhchendnfpbkaa", sum := "791d9b2ea1902215a7d332eca082267a190ae024a24fe419f8374758deb39a5c", func := "flightdeck/flightdecklaw55.AlertOrders", spec := "alertOrders", unfollowed := true, recurses := true, apart := false }
def AlertOrdersSaid : Prop := alertOrdersRow.holds Try.pinned (OpenSpec.ofChange alertOrdersSpec)

/-- ITS FALSE NEIGHBOUR: 'it returns false'. Refute it at one input. -/
def alertOrdersWrong : ChangeSpec := { name := "alertOrders", fn := fun _ => fun
  | [d] => { results := [.lit (.bool false)], args := [d] }
  | _ => none }
def AlertOrdersWrongFalsely : Prop := alertOrdersRow.holds Try.pinned (OpenSpec.ofChange alertOrdersWrong)

/-- 'flightdecklaw55.AlertKeeps': WHATEVER THE INPUT: true; the input reads as it did. -/
def alertKeepsSpec : ChangeSpec := { name := "alertKeeps", fn := fun _ => fun
  | [d1, d2] => { results := [.lit (.bool true)], args := [d1, d2] }
  | _ => none }
def alertKeepsRow : OpenClaim := { program := "ytfhchendnfpbkaa", sum := "791d9b2ea1902215a7d332eca082267a190ae024a24fe419f8374758deb39a5c", func := "flightdeck/flightdecklaw55.AlertKeeps", spec := "alertKeeps", unfollowed := true, recurses := true, apart := false }
def AlertKeepsSaid : Prop := alertKeepsRow.holds Try.pinned (OpenSpec.ofChange alertKeepsSpec)

/-- ITS FALSE NEIGHBOUR: 'it returns false'. Refute it at one input. -/
def alertKeepsWrong : ChangeSpec := { name := "alertKeeps", fn := fun _ => fun
  | [d1, d2] => { results := [.lit (.bool false)], args := [d1, d2] }
  | _ => none }
def AlertKeepsWrongFalsely : Prop := alertKeepsRow.holds Try.pinned (OpenSpec.ofChange alertKeepsWrong)

/-- 'flightdecklaw55.AlertRestores': WHATEVER THE INPUT: true; the input reads as it did. -/
def alertRestoresSpec : ChangeSpec := { name := "alertRestores", fn := fun _ => fun
  | [d1, d2] => { results := [.lit (.bool true)], args := [d1, d2] }
  | _ => none }
def alertRestoresRow : OpenClaim := { program := "ytfhchendnfpbkaa", sum := "791d9b2ea1902215a7d332eca082267a190ae024a24fe419f8374758deb39a5c", func := "flightdeck/flightdecklaw55.AlertRestores", spec := "alertRestores", unfollowed := true, recurses := true, apart := false }
def AlertRestoresSaid : Prop := alertRestoresRow.holds Try.pinned (OpenSpec.ofChange alertRestoresSpec)

/-- ITS FALSE NEIGHBOUR: 'it returns false'. Refute it at one input. -/
def alertRestoresWrong : ChangeSpec := { name := "alertRestores", fn := fun _ => fun
  | [d1, d2] => { results := [.lit (.bool false)], args := [d1, d2] }
  | _ => none }
def AlertRestoresWrongFalsely : Prop := alertRestoresRow.holds Try.pinned (OpenSpec.ofChange alertRestoresWrong)

/-- 'flightdecklaw55.AlertPlays': WHATEVER THE INPUT: true; the input reads as it did. -/
def alertPlaysSpec : ChangeSpec := { name := "alertPlays", fn := fun _ => fun
  | [d1, d2] => { results := [.lit (.bool true)], args := [d1, d2] }
  | _ => none }
def alertPlaysRow : OpenClaim := { program := "ytfhchendnfpbkaa", sum := "791d9b2ea1902215a7d332eca082267a190ae024a24fe419f8374758deb39a5c", func := "flightdeck/flightdecklaw55.AlertPlays", spec := "alertPlays", unfollowed := true, recurses := true, apart := false }
def AlertPlaysSaid : Prop := alertPlaysRow.holds Try.pinned (OpenSpec.ofChange alertPlaysSpec)

/-- ITS FALSE NEIGHBOUR: 'it returns false'. Refute it at one input. -/
def alertPlaysWrong : ChangeSpec := { name := "alertPlays", fn := fun _ => fun
  | [d1, d2] => { results := [.lit (.bool false)], args := [d1, d2] }
  | _ => none }
def AlertPlaysWrongFalsely : Prop := alertPlaysRow.holds Try.pinned (OpenSpec.ofChange alertPlaysWrong)

/- THE SECOND FORM. 'bulk': how many values and letters a reading holds, each counted each time it is reached (what is shared counts as often as it is met; a slice's spare places count too). A statement '..UptoSaid' is the law's where the arguments, and the package variables that the reading takes, are together of bulk at most 1048576: NARROWER than '..Said'. Prove '..Said' where nothing that the law and all that it calls make is longer than what came in: it says more and counts as full. Else prove '..UptoSaid'. A law counts once. -/
mutual
def uptoBulk {H : Type} : DataW H → Nat
  | .lit (.string bytes) => bytes.length + 1
  | .lit _ => 1
  | .nil => 1
  | .ptr d => uptoBulk d + 1
  | .slice elems spare => uptoBulkAll elems + uptoBulkAll spare + 1
  | .agg parts => uptoBulkAll parts + 1
  | .iface _ d => uptoBulk d + 1
  | .map entries => uptoBulkEntries entries + 1
  | .held _ => 1
def uptoBulkAll {H : Type} : List (DataW H) → Nat
  | [] => 0
  | d :: r => uptoBulk d + uptoBulkAll r
def uptoBulkEntries {H : Type} : List (Lit × DataW H) → Nat
  | [] => 0
  | x :: r => uptoBulkEntry x + uptoBulkEntries r
def uptoBulkEntry {H : Type} : Lit × DataW H → Nat
  | (.string bytes, d) => bytes.length + uptoBulk d + 1
  | (_, d) => uptoBulk d + 1
 end
def uptoSmall : (H : Type) → List (DataW H) → Bool := fun _ ds => decide (uptoBulkAll ds ≤ 1048576)
def OpenSpec.upto (s : _root_.Go.ChangeSpec) : _root_.Go.OpenSpec := { _root_.Go.OpenSpec.ofChange s with cond := some uptoSmall }

/-- 'flightdecklaw55.AlertChecks', WHERE WHAT IT READS IS OF BULK AT MOST 1048576: true; the input reads as it did. -/
def alertChecksUptoRow : OpenClaim := { program := "ytfhchendnfpbkaa", sum := "791d9b2ea1902215a7d332eca082267a190ae024a24fe419f8374758deb39a5c", func := "flightdeck/flightdecklaw55.AlertChecks", spec := "alertChecks", unfollowed := true, recurses := true, apart := false, narrowed := true }
def AlertChecksUptoSaid : Prop := alertChecksUptoRow.holds Try.pinned (OpenSpec.upto alertChecksSpec)

/-- 'flightdecklaw55.AlertStandard', WHERE WHAT IT READS IS OF BULK AT MOST 1048576: true; the input reads as it did. -/
def alertStandardUptoRow : OpenClaim := { program := "ytfhchendnfpbkaa", sum := "791d9b2ea1902215a7d332eca082267a190ae024a24fe419f8374758deb39a5c", func := "flightdeck/flightdecklaw55.AlertStandard", spec := "alertStandard", unfollowed := true, recurses := true, apart := false, narrowed := true }
def AlertStandardUptoSaid : Prop := alertStandardUptoRow.holds Try.pinned (OpenSpec.upto alertStandardSpec)

/-- 'flightdecklaw55.AlertShows', WHERE WHAT IT READS IS OF BULK AT MOST 1048576: true; the input reads as it did. -/
def alertShowsUptoRow : OpenClaim := { program := "ytfhchendnfpbkaa", sum := "791d9b2ea1902215a7d332eca082267a190ae024a24fe419f8374758deb39a5c", func := "flightdeck/flightdecklaw55.AlertShows", spec := "alertShows", unfollowed := true, recurses := true, apart := false, narrowed := true }
def AlertShowsUptoSaid : Prop := alertShowsUptoRow.holds Try.pinned (OpenSpec.upto alertShowsSpec)

/-- 'flightdecklaw55.AlertOrders', WHERE WHAT IT READS IS OF BULK AT MOST 1048576: true; the input reads as it did. -/
def alertOrdersUptoRow : OpenClaim := { program := "ytfhchendnfpbkaa", sum := "791d9b2ea1902215a7d332eca082267a190ae024a24fe419f8374758deb39a5c", func := "flightdeck/flightdecklaw55.AlertOrders", spec := "alertOrders", unfollowed := true, recurses := true, apart := false, narrowed := true }
def AlertOrdersUptoSaid : Prop := alertOrdersUptoRow.holds Try.pinned (OpenSpec.upto alertOrdersSpec)

/-- 'flightdecklaw55.AlertKeeps', WHERE WHAT IT READS IS OF BULK AT MOST 1048576: true; the input reads as it did. -/
def alertKeepsUptoRow : OpenClaim := { program := "ytfhchendnfpbkaa", sum := "791d9b2ea1902215a7d332eca082267a190ae024a24fe419f8374758deb39a5c", func := "flightdeck/flightdecklaw55.AlertKeeps", spec := "alertKeeps", unfollowed := true, recurses := true, apart := false, narrowed := true }
def AlertKeepsUptoSaid : Prop := alertKeepsUptoRow.holds Try.pinned (OpenSpec.upto alertKeepsSpec)

/-- 'flightdecklaw55.AlertRestores', WHERE WHAT IT READS IS OF BULK AT MOST 1048576: true; the input reads as it did. -/
def alertRestoresUptoRow : OpenClaim := { program := "ytfhchendnfpbkaa", sum := "791d9b2ea1902215a7d332eca082267a190ae024a24fe419f8374758deb39a5c", func := "flightdeck/flightdecklaw55.AlertRestores", spec := "alertRestores", unfollowed := true, recurses := true, apart := false, narrowed := true }
def AlertRestoresUptoSaid : Prop := alertRestoresUptoRow.holds Try.pinned (OpenSpec.upto alertRestoresSpec)

/-- 'flightdecklaw55.AlertPlays', WHERE WHAT IT READS IS OF BULK AT MOST 1048576: true; the input reads as it did. -/
def alertPlaysUptoRow : OpenClaim := { program := "ytfhchendnfpbkaa", sum := "791d9b2ea1902215a7d332eca082267a190ae024a24fe419f8374758deb39a5c", func := "flightdeck/flightdecklaw55.AlertPlays", spec := "alertPlays", unfollowed := true, recurses := true, apart := false, narrowed := true }
def AlertPlaysUptoSaid : Prop := alertPlaysUptoRow.holds Try.pinned (OpenSpec.upto alertPlaysSpec)

end Rows
end Go.Proofs.Ytfhchendnfpbkaa
