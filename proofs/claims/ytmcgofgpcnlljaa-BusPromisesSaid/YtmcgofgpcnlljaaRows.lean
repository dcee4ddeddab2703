/-
  No cell of these rows narrows 'for every input' (looked for: loops, veiled, ifaces, maps, wideKeys, modest, calm, conditions, laid).
  DERIVED. THE GIVEN ROWS OF THIS SEAT. 9 by the template 'for every input the law returns true; each argument reads behind the call as it read before'; 0 by the template 'total and deterministic' (their statements: YtmcgofgpcnlljaaTotals.lean).
  GIVEN WITH THE SEED: the statements are not yours to turn. If you find one false, say at which input.
  Laid BY PROGRAM, IN A SANDBOX (cutbox-rows.mjs): the forced cells as the released guide's own fill.sh prints them over the translation e61292c4b57403aa… (all of the seat's roots in one cut). By AI agents, Wed Nov 11 2026. No macro, syntax, notation, axiom, sorry.
-/
import Derived.Test.YtmcgofgpcnlljaaChecked
import GoSem.Claim
import GoSem.ClaimJoined
import GoSem.ClaimMapViews
import Derived.JoinedTies
import Derived.KernelRfl
namespace Go.Proofs.Ytmcgofgpcnlljaa
/- THE CELL 'sum', in the pinned program and in every row, IS THE sha256 OF THE DUMP (.gsa) THAT YtmcgofgpcnlljaaProg.lean LOADS. Nothing in Lean hashes anything: it is a label: what it is worth is what the hold of that sum in a sandbox is worth. -/
noncomputable def Try.pinned : Pinned := { name := "ytmcgofgpcnlljaa", sum := "e61292c4b57403aafd1aece174c7937615b1195aa5f8116b5c81fc3bec4a9b60", checked := Try.checked }
namespace Rows
def none {H : Type} : Left H := { results := [], args := [] }

/-- 'flightdecklaw52.BusEncodes': WHATEVER THE INPUT: true; the input reads as it did. -/
def busEncodesSpec : ChangeSpec := { name := "busEncodes", fn := fun _ => fun
  | [d1, d2] => { results := [.lit (.bool true)], args := [d1, d2] }
  | _ => none }
def busEncodesRow : OpenClaim := { program := "ytmcgofgpcnlljaa", sum := "e61292c4b57403aafd1aece174c7937615b1195aa5f8116b5c81fc3bec4a9b60", func := "flightdeck/flightdecklaw52.BusEncodes", spec := "busEncodes", unfollowed := true, recurses := true, apart := false }
def BusEncodesSaid : Prop := busEncodesRow.holds Try.pinned (OpenSpec.ofChange busEncodesSpec)

/-- ITS FALSE NEIGHBOUR: 'it returns false'. Refute it at one input. -/
def busEncodesWrong : ChangeSpec := { name := "busEncodes", fn := fun _ => fun
  | [d1, d2] => { results := [.lit (.bool false)], args := [d1, d2] }
  | _ => none }
def BusEncodesWrongFalsely : Prop := busEncodesRow.holds Try.pinned (OpenSpec.ofChange busEncodesWrong)

/-- 'flightdecklaw52.BusDecodes': WHATEVER THE INPUT: true; the input reads as it did. -/
def busDecodesSpec : ChangeSpec := { name := "busDecodes", fn := fun _ => fun
  | [d] => { results := [.lit (.bool true)], args := [d] }
  | _ => none }
def busDecodesRow : OpenClaim := { program := "ytmcgofgpcnlljaa", sum := "e61292c4b57403aafd1aece174c7937615b1195aa5f8116b5c81fc3bec4a9b60", func := "flightdeck/flightdecklaw52.BusDecodes", spec := "busDecodes", unfollowed := true, recurses := true, apart := false }
def BusDecodesSaid : Prop := busDecodesRow.holds Try.pinned (OpenSpec.ofChange busDecodesSpec)

/-- ITS FALSE NEIGHBOUR: 'it returns false'. Refute it at one input. -/
def busDecodesWrong : ChangeSpec := { name := "busDecodes", fn := fun _ => fun
  | [d] => { results := [.lit (.bool false)], args := [d] }
  | _ => none }
def BusDecodesWrongFalsely : Prop := busDecodesRow.holds Try.pinned (OpenSpec.ofChange busDecodesWrong)

/-- 'flightdecklaw52.BusSchedules': WHATEVER THE INPUT: true; the input reads as it did. -/
def busSchedulesSpec : ChangeSpec := { name := "busSchedules", fn := fun _ => fun
  | [d1, d2] => { results := [.lit (.bool true)], args := [d1, d2] }
  | _ => none }
def busSchedulesRow : OpenClaim := { program := "ytmcgofgpcnlljaa", sum := "e61292c4b57403aafd1aece174c7937615b1195aa5f8116b5c81fc3bec4a9b60", func := "flightdeck/flightdecklaw52.BusSchedules", spec := "busSchedules", unfollowed := true, recurses := true, apart := false }
def BusSchedulesSaid : Prop := busSchedulesRow.holds Try.pinned (OpenSpec.ofChange busSchedulesSpec)

/-- ITS FALSE NEIGHBOUR: 'it returns false'. Refute it at one input. -/
def busSchedulesWrong : ChangeSpec := { name := "busSchedules", fn := fun _ => fun
  | [d1, d2] => { results := [.lit (.bool false)], args := [d1, d2] }
  | _ => none }
def BusSchedulesWrongFalsely : Prop := busSchedulesRow.holds Try.pinned (OpenSpec.ofChange busSchedulesWrong)

/-- 'flightdecklaw52.BusCarries': WHATEVER THE INPUT: true; the input reads as it did. -/
def busCarriesSpec : ChangeSpec := { name := "busCarries", fn := fun _ => fun
  | [d1, d2] => { results := [.lit (.bool true)], args := [d1, d2] }
  | _ => none }
def busCarriesRow : OpenClaim := { program := "ytmcgofgpcnlljaa", sum := "e61292c4b57403aafd1aece174c7937615b1195aa5f8116b5c81fc3bec4a9b60", func := "flightdeck/flightdecklaw52.BusCarries", spec := "busCarries", unfollowed := true, recurses := true, apart := false }
def BusCarriesSaid : Prop := busCarriesRow.holds Try.pinned (OpenSpec.ofChange busCarriesSpec)

/-- ITS FALSE NEIGHBOUR: 'it returns false'. Refute it at one input. -/
def busCarriesWrong : ChangeSpec := { name := "busCarries", fn := fun _ => fun
  | [d1, d2] => { results := [.lit (.bool false)], args := [d1, d2] }
  | _ => none }
def BusCarriesWrongFalsely : Prop := busCarriesRow.holds Try.pinned (OpenSpec.ofChange busCarriesWrong)

/-- 'flightdecklaw52.BusReceives': WHATEVER THE INPUT: true; the input reads as it did. -/
def busReceivesSpec : ChangeSpec := { name := "busReceives", fn := fun _ => fun
  | [d1, d2, d3] => { results := [.lit (.bool true)], args := [d1, d2, d3] }
  | _ => none }
def busReceivesRow : OpenClaim := { program := "ytmcgofgpcnlljaa", sum := "e61292c4b57403aafd1aece174c7937615b1195aa5f8116b5c81fc3bec4a9b60", func := "flightdeck/flightdecklaw52.BusReceives", spec := "busReceives", unfollowed := true, recurses := true, apart := false }
def BusReceivesSaid : Prop := busReceivesRow.holds Try.pinned (OpenSpec.ofChange busReceivesSpec)

/-- ITS FALSE NEIGHBOUR: 'it returns false'. Refute it at one input. -/
def busReceivesWrong : ChangeSpec := { name := "busReceives", fn := fun _ => fun
  | [d1, d2, d3] => { results := [.lit (.bool false)], args := [d1, d2, d3] }
  | _ => none }
def BusReceivesWrongFalsely : Prop := busReceivesRow.holds Try.pinned (OpenSpec.ofChange busReceivesWrong)

/-- 'flightdecklaw52.BusUndamaged': WHATEVER THE INPUT: true; the input reads as it did. -/
def busUndamagedSpec : ChangeSpec := { name := "busUndamaged", fn := fun _ => fun
  | [d1, d2] => { results := [.lit (.bool true)], args := [d1, d2] }
  | _ => none }
def busUndamagedRow : OpenClaim := { program := "ytmcgofgpcnlljaa", sum := "e61292c4b57403aafd1aece174c7937615b1195aa5f8116b5c81fc3bec4a9b60", func := "flightdeck/flightdecklaw52.BusUndamaged", spec := "busUndamaged", unfollowed := true, recurses := true, apart := false }
def BusUndamagedSaid : Prop := busUndamagedRow.holds Try.pinned (OpenSpec.ofChange busUndamagedSpec)

/-- ITS FALSE NEIGHBOUR: 'it returns false'. Refute it at one input. -/
def busUndamagedWrong : ChangeSpec := { name := "busUndamaged", fn := fun _ => fun
  | [d1, d2] => { results := [.lit (.bool false)], args := [d1, d2] }
  | _ => none }
def BusUndamagedWrongFalsely : Prop := busUndamagedRow.holds Try.pinned (OpenSpec.ofChange busUndamagedWrong)

/-- 'flightdecklaw52.BusStale': WHATEVER THE INPUT: true; the input reads as it did. -/
def busStaleSpec : ChangeSpec := { name := "busStale", fn := fun _ => fun
  | [d1, d2, d3] => { results := [.lit (.bool true)], args := [d1, d2, d3] }
  | _ => none }
def busStaleRow : OpenClaim := { program := "ytmcgofgpcnlljaa", sum := "e61292c4b57403aafd1aece174c7937615b1195aa5f8116b5c81fc3bec4a9b60", func := "flightdeck/flightdecklaw52.BusStale", spec := "busStale", unfollowed := true, recurses := true, apart := false }
def BusStaleSaid : Prop := busStaleRow.holds Try.pinned (OpenSpec.ofChange busStaleSpec)

/-- ITS FALSE NEIGHBOUR: 'it returns false'. Refute it at one input. -/
def busStaleWrong : ChangeSpec := { name := "busStale", fn := fun _ => fun
  | [d1, d2, d3] => { results := [.lit (.bool false)], args := [d1, d2, d3] }
  | _ => none }
def BusStaleWrongFalsely : Prop := busStaleRow.holds Try.pinned (OpenSpec.ofChange busStaleWrong)

/-- 'flightdecklaw52.BusLoads': WHATEVER THE INPUT: true; the input reads as it did. -/
def busLoadsSpec : ChangeSpec := { name := "busLoads", fn := fun _ => fun
  | [d1, d2, d3] => { results := [.lit (.bool true)], args := [d1, d2, d3] }
  | _ => none }
def busLoadsRow : OpenClaim := { program := "ytmcgofgpcnlljaa", sum := "e61292c4b57403aafd1aece174c7937615b1195aa5f8116b5c81fc3bec4a9b60", func := "flightdeck/flightdecklaw52.BusLoads", spec := "busLoads", unfollowed := true, recurses := true, apart := false }
def BusLoadsSaid : Prop := busLoadsRow.holds Try.pinned (OpenSpec.ofChange busLoadsSpec)

/-- ITS FALSE NEIGHBOUR: 'it returns false'. Refute it at one input. -/
def busLoadsWrong : ChangeSpec := { name := "busLoads", fn := fun _ => fun
  | [d1, d2, d3] => { results := [.lit (.bool false)], args := [d1, d2, d3] }
  | _ => none }
def BusLoadsWrongFalsely : Prop := busLoadsRow.holds Try.pinned (OpenSpec.ofChange busLoadsWrong)

/-- 'flightdecklaw52.BusPromises': WHATEVER THE INPUT: true; the input reads as it did. -/
def busPromisesSpec : ChangeSpec := { name := "busPromises", fn := fun _ => fun
  | [d1, d2] => { results := [.lit (.bool true)], args := [d1, d2] }
  | _ => none }
def busPromisesRow : OpenClaim := { program := "ytmcgofgpcnlljaa", sum := "e61292c4b57403aafd1aece174c7937615b1195aa5f8116b5c81fc3bec4a9b60", func := "flightdeck/flightdecklaw52.BusPromises", spec := "busPromises", unfollowed := true, recurses := true, apart := false }
def BusPromisesSaid : Prop := busPromisesRow.holds Try.pinned (OpenSpec.ofChange busPromisesSpec)

/-- ITS FALSE NEIGHBOUR: 'it returns false'. Refute it at one input. -/
def busPromisesWrong : ChangeSpec := { name := "busPromises", fn := fun _ => fun
  | [d1, d2] => { results := [.lit (.bool false)], args := [d1, d2] }
  | _ => none }
def BusPromisesWrongFalsely : Prop := busPromisesRow.holds Try.pinned (OpenSpec.ofChange busPromisesWrong)

/- THE SECOND FORM. 'bulk': how many values and letters a reading holds, each counted each time it is reached (what is shared counts as often as it is met; a slice's spare places count too). A statement '..UptoSaid' is the law's where the arguments, and the package variables that the reading takes, are together of bulk at most 1048576: NARROWER than '..Said'. Prove '..Said' where nothing that the law and all that it calls make is longer than what came in: it says more and counts as full. Else prove '..UptoSaid'. A law counts once. -/
mutual
def uptoBulk {H : Type} : DataW H → Nat
  | .lit (.string bytes) => bytes.length + 1
  | .lit _ => 1
  | .nil => 1
  | .ptr d => uptoBulk d + 1
  | .slice elems spare => uptoBulkAll elems + uptoBulkAll spare + 1
  | .agg parts => uptoBulkAll parts + 1
  | .iface _ d => uptoBulk d + 1
  | .map entries => uptoBulkEntries entries + 1
  | .held _ => 1
def uptoBulkAll {H : Type} : List (DataW H) → Nat
  | [] => 0
  | d :: r => uptoBulk d + uptoBulkAll r
def uptoBulkEntries {H : Type} : List (Lit × DataW H) → Nat
  | [] => 0
  | x :: r => uptoBulkEntry x + uptoBulkEntries r
def uptoBulkEntry {H : Type} : Lit × DataW H → Nat
  | (.string bytes, d) => bytes.length + uptoBulk d + 1
  | (_, d) => uptoBulk d + 1
 end
def uptoSmall : (H : Type) → List (DataW H) → Bool := fun _ ds => decide (uptoBulkAll ds ≤ 1048576)
def OpenSpec.upto (s : _root_.Go.ChangeSpec) : _root_.Go.OpenSpec := { _root_.Go.OpenSpec.ofChange s with cond := some uptoSmall }

/-- 'flightdecklaw52.BusEncodes', WHERE WHAT IT READS IS OF BULK AT MOST 1048576: true; the input reads as it did. -/
def busEncodesUptoRow : OpenClaim := { program := "ytmcgofgpcnlljaa", sum := "e61292c4b57403aafd1aece174c7937615b1195aa5f8116b5c81fc3bec4a9b60", func := "flightdeck/flightdecklaw52.BusEncodes", spec := "busEncodes", unfollowed := true, recurses := true, apart := false, narrowed := true }
def BusEncodesUptoSaid : Prop := busEncodesUptoRow.holds Try.pinned (OpenSpec.upto busEncodesSpec)

/-- 'flightdecklaw52.BusDecodes', WHERE WHAT IT READS IS OF BULK AT MOST 1048576: true; the input reads as it did. -/
def busDecodesUptoRow : OpenClaim := { program := "ytmcgofgpcnlljaa", sum := "e61292c4b57403aafd1aece174c7937615b1195aa5f8116b5c81fc3bec4a9b60", func := "flightdeck/flightdecklaw52.BusDecodes", spec := "busDecodes", unfollowed := true, recurses := true, apart := false, narrowed := true }
def BusDecodesUptoSaid : Prop := busDecodesUptoRow.holds Try.pinned (OpenSpec.upto busDecodesSpec)

/-- 'flightdecklaw52.BusSchedules', WHERE WHAT IT READS IS OF BULK AT MOST 1048576: true; the input reads as it did. -/
def busSchedulesUptoRow : OpenClaim := { program := "ytmcgofgpcnlljaa", sum := "e61292c4b57403aafd1aece174c7937615b1195aa5f8116b5c81fc3bec4a9b60", func := "flightdeck/flightdecklaw52.BusSchedules", spec := "busSchedules", unfollowed := true, recurses := true, apart := false, narrowed := true }
def BusSchedulesUptoSaid : Prop := busSchedulesUptoRow.holds Try.pinned (OpenSpec.upto busSchedulesSpec)

/-- 'flightdecklaw52.BusCarries', WHERE WHAT IT READS IS OF BULK AT MOST 1048576: true; the input reads as it did. -/
def busCarriesUptoRow : OpenClaim := { program := "ytmcgofgpcnlljaa", sum := "e61292c4b57403aafd1aece174c7937615b1195aa5f8116b5c81fc3bec4a9b60", func := "flightdeck/flightdecklaw52.BusCarries", spec := "busCarries", unfollowed := true, recurses := true, apart := false, narrowed := true }
def BusCarriesUptoSaid : Prop := busCarriesUptoRow.holds Try.pinned (OpenSpec.upto busCarriesSpec)

/-- 'flightdecklaw52.BusReceives', WHERE WHAT IT READS IS OF BULK AT MOST 1048576: true; the input reads as it did. -/
def busReceivesUptoRow : OpenClaim := { program := "ytmcgofgpcnlljaa", sum := "e61292c4b57403aafd1aece174c7937615b1195aa5f8116b5c81fc3bec4a9b60", func := "flightdeck/flightdecklaw52.BusReceives", spec := "busReceives", unfollowed := true, recurses := true, apart := false, narrowed := true }
def BusReceivesUptoSaid : Prop := busReceivesUptoRow.holds Try.pinned (OpenSpec.upto busReceivesSpec)

/-- 'flightdecklaw52.BusUndamaged', WHERE WHAT IT READS IS OF BULK AT MOST 1048576: true; the input reads as it did. -/
def busUndamagedUptoRow : OpenClaim := { program := "ytmcgofgpcnlljaa", sum := "e61292c4b57403aafd1aece174c7937615b1195aa5f8116b5c81fc3bec4a9b60", func := "flightdeck/flightdecklaw52.BusUndamaged", spec := "busUndamaged", unfollowed := true, recurses := true, apart := false, narrowed := true }
def BusUndamagedUptoSaid : Prop := busUndamagedUptoRow.holds Try.pinned (OpenSpec.upto busUndamagedSpec)

/-- 'flightdecklaw52.BusStale', WHERE WHAT IT READS IS OF BULK AT MOST 1048576: true; the input reads as it did. -/
def busStaleUptoRow : OpenClaim := { program := "ytmcgofgpcnlljaa", sum := "e61292c4b57403aafd1aece174c7937615b1195aa5f8116b5c81fc3bec4a9b60", func := "flightdeck/flightdecklaw52.BusStale", spec := "busStale", unfollowed := true, recurses := true, apart := false, narrowed := true }
def BusStaleUptoSaid : Prop := busStaleUptoRow.holds Try.pinned (OpenSpec.upto busStaleSpec)

/-- 'flightdecklaw52.BusLoads', WHERE WHAT IT READS IS OF BULK AT MOST 1048576: true; the input reads as it did. -/
def busLoadsUptoRow : OpenClaim := { program := "ytmcgofgpcnlljaa", sum := "e61292c4b57403aafd1aece174c7937615b1195aa5f8116b5c81fc3bec4a9b60", func := "flightdeck/flightdecklaw52.BusLoads", spec := "busLoads", unfollowed := true, recurses := true, apart := false, narrowed := true }
def BusLoadsUptoSaid : Prop := busLoadsUptoRow.holds Try.pinned (OpenSpec.upto busLoadsSpec)

/-- 'flightdecklaw52.BusPromises', WHERE WHAT IT READS IS OF BULK AT MOST 1048576: true; the input reads as it did. -/
def busPromisesUptoRow : OpenClaim := { program := "ytmcgofgpcnlljaa", sum := "e61292c4b57403aafd1aece174c7937615b1195aa5f8116b5c81fc3bec4a9b60", func := "flightdeck/flightdecklaw52.BusPromises", spec := "busPromises", unfollowed := true, recurses := true, apart := false, narrowed := true }
def BusPromisesUptoSaid : Prop := busPromisesUptoRow.holds Try.pinned (OpenSpec.upto busPromisesSpec)

end Rows
end Go.Proofs.Ytmcgofgpcnlljaa
