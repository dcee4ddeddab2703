/-
  No cell of these rows narrows 'for every input' (looked for: loops, veiled, ifaces, maps, wideKeys, modest, calm, conditions, laid).
  DERIVED. THE GIVEN ROWS OF THIS SEAT. 7 by the template 'for every input the law returns true; each argument reads behind the call as it read before'; 0 by the template 'total and deterministic' (their statements: YtolppdcaaoghgaaTotals.lean).
  GIVEN WITH THE SEED: the statements are not yours to turn. If you find one false, say at which input.
  Laid BY PROGRAM, IN A SANDBOX (cutbox-rows.mjs): the forced cells as the released guide's own fill.sh prints them over the translation 3b34890ee0e59dfc… (all of the seat's roots in one cut). By AI agents, Wed Nov 11 2026. No macro, syntax, notation, axiom, sorry.
-/
import Derived.Test.YtolppdcaaoghgaaChecked
import GoSem.Claim
import GoSem.ClaimJoined
import GoSem.ClaimMapViews
import Derived.JoinedTies
import Derived.KernelRfl
namespace Go.Proofs.Ytolppdcaaoghgaa
/- THE CELL 'sum', in the pinned program and in every row, IS THE sha256 OF THE DUMP (.gsa) THAT YtolppdcaaoghgaaProg.lean LOADS. Nothing in Lean hashes anything: it is a label: what it is worth is what the hold of that sum in a sandbox is worth. -/
noncomputable def Try.pinned : Pinned := { name := "ytolppdcaaoghgaa", sum := "3b34890ee0e59dfcebbaeb37139d16ee097b6338b4e2744933583e6abd589ae4", checked := Try.checked }
namespace Rows
def none {H : Type} : Left H := { results := [], args := [] }

/-- 'flightdecklaw54.ResyncSplits': WHATEVER THE INPUT: true; the input reads as it did. -/
def resyncSplitsSpec : ChangeSpec := { name := "resyncSplits", fn := fun _ => fun
  | [d1, d2, d3] => { results := [.lit (.bool true)], args := [d1, d2, d3] }
  | _ => none }
def resyncSplitsRow : OpenClaim := { program := "ytolppdcaaoghgaa", sum := "3b34890ee0e59dfcebbaeb37139d16ee097b6338b4e2744933583e6abd589ae4", func := "flightdeck/flightdecklaw54.ResyncSplits", spec := "resyncSplits", apart := false }
def ResyncSplitsSaid : Prop := resyncSplitsRow.holds Try.pinned (OpenSpec.ofChange resyncSplitsSpec)

/-- ITS FALSE NEIGHBOUR: 'it returns false'. Refute it at one input. -/
def resyncSplitsWrong : ChangeSpec := { name := "resyncSplits", fn := fun _ => fun
  | [d1, d2, d3] => { results := [.lit (.bool false)], args := [d1, d2, d3] }
  | _ => none }
def ResyncSplitsWrongFalsely : Prop := resyncSplitsRow.holds Try.pinned (OpenSpec.ofChange resyncSplitsWrong)

/-- 'flightdecklaw54.ResyncLimits': WHATEVER THE INPUT: true; the input reads as it did. -/
def resyncLimitsSpec : ChangeSpec := { name := "resyncLimits", fn := fun _ => fun
  | [d1, d2, d3] => { results := [.lit (.bool true)], args := [d1, d2, d3] }
  | _ => none }
def resyncLimitsRow : OpenClaim := { program := "ytolppdcaaoghgaa", sum := "3b34890ee0e59dfcebbaeb37139d16ee097b6338b4e2744933583e6abd589ae4", func := "flightdeck/flightdecklaw54.ResyncLimits", spec := "resyncLimits", apart := false }
def ResyncLimitsSaid : Prop := resyncLimitsRow.holds Try.pinned (OpenSpec.ofChange resyncLimitsSpec)

/-- ITS FALSE NEIGHBOUR: 'it returns false'. Refute it at one input. -/
def resyncLimitsWrong : ChangeSpec := { name := "resyncLimits", fn := fun _ => fun
  | [d1, d2, d3] => { results := [.lit (.bool false)], args := [d1, d2, d3] }
  | _ => none }
def ResyncLimitsWrongFalsely : Prop := resyncLimitsRow.holds Try.pinned (OpenSpec.ofChange resyncLimitsWrong)

/-- 'flightdecklaw54.ResyncSelects': WHATEVER THE INPUT: true; the input reads as it did. -/
def resyncSelectsSpec : ChangeSpec := { name := "resyncSelects", fn := fun _ => fun
  | [d1, d2] => { results := [.lit (.bool true)], args := [d1, d2] }
  | _ => none }
def resyncSelectsRow : OpenClaim := { program := "ytolppdcaaoghgaa", sum := "3b34890ee0e59dfcebbaeb37139d16ee097b6338b4e2744933583e6abd589ae4", func := "flightdeck/flightdecklaw54.ResyncSelects", spec := "resyncSelects", apart := false }
def ResyncSelectsSaid : Prop := resyncSelectsRow.holds Try.pinned (OpenSpec.ofChange resyncSelectsSpec)

/-- ITS FALSE NEIGHBOUR: 'it returns false'. Refute it at one input. -/
def resyncSelectsWrong : ChangeSpec := { name := "resyncSelects", fn := fun _ => fun
  | [d1, d2] => { results := [.lit (.bool false)], args := [d1, d2] }
  | _ => none }
def ResyncSelectsWrongFalsely : Prop := resyncSelectsRow.holds Try.pinned (OpenSpec.ofChange resyncSelectsWrong)

/-- 'flightdecklaw54.ResyncServes': WHATEVER THE INPUT: true; the input reads as it did. -/
def resyncServesSpec : ChangeSpec := { name := "resyncServes", fn := fun _ => fun
  | [d] => { results := [.lit (.bool true)], args := [d] }
  | _ => none }
def resyncServesRow : OpenClaim := { program := "ytolppdcaaoghgaa", sum := "3b34890ee0e59dfcebbaeb37139d16ee097b6338b4e2744933583e6abd589ae4", func := "flightdeck/flightdecklaw54.ResyncServes", spec := "resyncServes", apart := false }
def ResyncServesSaid : Prop := resyncServesRow.holds Try.pinned (OpenSpec.ofChange resyncServesSpec)

/-- ITS FALSE NEIGHBOUR: 'it returns false'. Refute it at one input. -/
def resyncServesWrong : ChangeSpec := { name := "resyncServes", fn := fun _ => fun
  | [d] => { results := [.lit (.bool false)], args := [d] }
  | _ => none }
def ResyncServesWrongFalsely : Prop := resyncServesRow.holds Try.pinned (OpenSpec.ofChange resyncServesWrong)

/-- 'flightdecklaw54.ResyncPieces': WHATEVER THE INPUT: true; the input reads as it did. -/
def resyncPiecesSpec : ChangeSpec := { name := "resyncPieces", fn := fun _ => fun
  | [d1, d2] => { results := [.lit (.bool true)], args := [d1, d2] }
  | _ => none }
def resyncPiecesRow : OpenClaim := { program := "ytolppdcaaoghgaa", sum := "3b34890ee0e59dfcebbaeb37139d16ee097b6338b4e2744933583e6abd589ae4", func := "flightdeck/flightdecklaw54.ResyncPieces", spec := "resyncPieces", apart := false }
def ResyncPiecesSaid : Prop := resyncPiecesRow.holds Try.pinned (OpenSpec.ofChange resyncPiecesSpec)

/-- ITS FALSE NEIGHBOUR: 'it returns false'. Refute it at one input. -/
def resyncPiecesWrong : ChangeSpec := { name := "resyncPieces", fn := fun _ => fun
  | [d1, d2] => { results := [.lit (.bool false)], args := [d1, d2] }
  | _ => none }
def ResyncPiecesWrongFalsely : Prop := resyncPiecesRow.holds Try.pinned (OpenSpec.ofChange resyncPiecesWrong)

/-- 'flightdecklaw54.ResyncCollects': WHATEVER THE INPUT: true; the input reads as it did. -/
def resyncCollectsSpec : ChangeSpec := { name := "resyncCollects", fn := fun _ => fun
  | [d] => { results := [.lit (.bool true)], args := [d] }
  | _ => none }
def resyncCollectsRow : OpenClaim := { program := "ytolppdcaaoghgaa", sum := "3b34890ee0e59dfcebbaeb37139d16ee097b6338b4e2744933583e6abd589ae4", func := "flightdeck/flightdecklaw54.ResyncCollects", spec := "resyncCollects", apart := false }
def ResyncCollectsSaid : Prop := resyncCollectsRow.holds Try.pinned (OpenSpec.ofChange resyncCollectsSpec)

/-- ITS FALSE NEIGHBOUR: 'it returns false'. Refute it at one input. -/
def resyncCollectsWrong : ChangeSpec := { name := "resyncCollects", fn := fun _ => fun
  | [d] => { results := [.lit (.bool false)], args := [d] }
  | _ => none }
def ResyncCollectsWrongFalsely : Prop := resyncCollectsRow.holds Try.pinned (OpenSpec.ofChange resyncCollectsWrong)

/-- 'flightdecklaw54.ResyncWhole': WHATEVER THE INPUT: true; the input reads as it did. -/
def resyncWholeSpec : ChangeSpec := { name := "resyncWhole", fn := fun _ => fun
  | [d1, d2, d3] => { results := [.lit (.bool true)], args := [d1, d2, d3] }
  | _ => none }
def resyncWholeRow : OpenClaim := { program := "ytolppdcaaoghgaa", sum := "3b34890ee0e59dfcebbaeb37139d16ee097b6338b4e2744933583e6abd589ae4", func := "flightdeck/flightdecklaw54.ResyncWhole", spec := "resyncWhole", unfollowed := true, recurses := true, apart := false }
def ResyncWholeSaid : Prop := resyncWholeRow.holds Try.pinned (OpenSpec.ofChange resyncWholeSpec)

/-- ITS FALSE NEIGHBOUR: 'it returns false'. Refute it at one input. -/
def resyncWholeWrong : ChangeSpec := { name := "resyncWhole", fn := fun _ => fun
  | [d1, d2, d3] => { results := [.lit (.bool false)], args := [d1, d2, d3] }
  | _ => none }
def ResyncWholeWrongFalsely : Prop := resyncWholeRow.holds Try.pinned (OpenSpec.ofChange resyncWholeWrong)

/- THE SECOND FORM. 'bulk': how many values and letters a reading holds, each counted each time it is reached (what is shared counts as often as it is met; a slice's spare places count too). A statement '..UptoSaid' is the law's where the arguments, and the package variables that the reading takes, are together of bulk at most 1048576: NARROWER than '..Said'. Prove '..Said' where nothing that the law and all that it calls make is longer than what came in: it says more and counts as full. Else prove '..UptoSaid'. A law counts once. -/
mutual
def uptoBulk {H : Type} : DataW H → Nat
  | .lit (.string bytes) => bytes.length + 1
  | .lit _ => 1
  | .nil => 1
  | .ptr d => uptoBulk d + 1
  | .slice elems spare => uptoBulkAll elems + uptoBulkAll spare + 1
  | .agg parts => uptoBulkAll parts + 1
  | .iface _ d => uptoBulk d + 1
  | .map entries => uptoBulkEntries entries + 1
  | .held _ => 1
def uptoBulkAll {H : Type} : List (DataW H) → Nat
  | [] => 0
  | d :: r => uptoBulk d + uptoBulkAll r
def uptoBulkEntries {H : Type} : List (Lit × DataW H) → Nat
  | [] => 0
  | x :: r => uptoBulkEntry x + uptoBulkEntries r
def uptoBulkEntry {H : Type} : Lit × DataW H → Nat
  | (.string bytes, d) => bytes.length + uptoBulk d + 1
  | (_, d) => uptoBulk d + 1
 end
def uptoSmall : (H : Type) → List (DataW H) → Bool := fun _ ds => decide (uptoBulkAll ds ≤ 1048576)
def OpenSpec.upto (s : _root_.Go.ChangeSpec) : _root_.Go.OpenSpec := { _root_.Go.OpenSpec.ofChange s with cond := some uptoSmall }

/-- 'flightdecklaw54.ResyncSplits', WHERE WHAT IT READS IS OF BULK AT MOST 1048576: true; the input reads as it did. -/
def resyncSplitsUptoRow : OpenClaim := { program := "ytolppdcaaoghgaa", sum := "3b34890ee0e59dfcebbaeb37139d16ee097b6338b4e2744933583e6abd589ae4", func := "flightdeck/flightdecklaw54.ResyncSplits", spec := "resyncSplits", apart := false, narrowed := true }
def ResyncSplitsUptoSaid : Prop := resyncSplitsUptoRow.holds Try.pinned (OpenSpec.upto resyncSplitsSpec)

/-- 'flightdecklaw54.ResyncLimits', WHERE WHAT IT READS IS OF BULK AT MOST 1048576: true; the input reads as it did. -/
def resyncLimitsUptoRow : OpenClaim := { program := "ytolppdcaaoghgaa", sum := "3b34890ee0e59dfcebbaeb37139d16ee097b6338b4e2744933583e6abd589ae4", func := "flightdeck/flightdecklaw54.ResyncLimits", spec := "resyncLimits", apart := false, narrowed := true }
def ResyncLimitsUptoSaid : Prop := resyncLimitsUptoRow.holds Try.pinned (OpenSpec.upto resyncLimitsSpec)

/-- 'flightdecklaw54.ResyncSelects', WHERE WHAT IT READS IS OF BULK AT MOST 1048576: true; the input reads as it did. -/
def resyncSelectsUptoRow : OpenClaim := { program := "ytolppdcaaoghgaa", sum := "3b34890ee0e59dfcebbaeb37139d16ee097b6338b4e2744933583e6abd589ae4", func := "flightdeck/flightdecklaw54.ResyncSelects", spec := "resyncSelects", apart := false, narrowed := true }
def ResyncSelectsUptoSaid : Prop := resyncSelectsUptoRow.holds Try.pinned (OpenSpec.upto resyncSelectsSpec)

/-- 'flightdecklaw54.ResyncServes', WHERE WHAT IT READS IS OF BULK AT MOST 1048576: true; the input reads as it did. -/
def resyncServesUptoRow : OpenClaim := { program := "ytolppdcaaoghgaa", sum := "3b34890ee0e59dfcebbaeb37139d16ee097b6338b4e2744933583e6abd589ae4", func := "flightdeck/flightdecklaw54.ResyncServes", spec := "resyncServes", apart := false, narrowed := true }
def ResyncServesUptoSaid : Prop := resyncServesUptoRow.holds Try.pinned (OpenSpec.upto resyncServesSpec)

/-- 'flightdecklaw54.ResyncPieces', WHERE WHAT IT READS IS OF BULK AT MOST 1048576: true; the input reads as it did. -/
def resyncPiecesUptoRow : OpenClaim := { program := "ytolppdcaaoghgaa", sum := "3b34890ee0e59dfcebbaeb37139d16ee097b6338b4e2744933583e6abd589ae4", func := "flightdeck/flightdecklaw54.ResyncPieces", spec := "resyncPieces", apart := false, narrowed := true }
def ResyncPiecesUptoSaid : Prop := resyncPiecesUptoRow.holds Try.pinned (OpenSpec.upto resyncPiecesSpec)

/-- 'flightdecklaw54.ResyncCollects', WHERE WHAT IT READS IS OF BULK AT MOST 1048576: true; the input reads as it did. -/
def resyncCollectsUptoRow : OpenClaim := { program := "ytolppdcaaoghgaa", sum := "3b34890ee0e59dfcebbaeb37139d16ee097b6338b4e2744933583e6abd589ae4", func := "flightdeck/flightdecklaw54.ResyncCollects", spec := "resyncCollects", apart := false, narrowed := true }
def ResyncCollectsUptoSaid : Prop := resyncCollectsUptoRow.holds Try.pinned (OpenSpec.upto resyncCollectsSpec)

/-- 'flightdecklaw54.ResyncWhole', WHERE WHAT IT READS IS OF BULK AT MOST 1048576: true; the input reads as it did. -/
def resyncWholeUptoRow : OpenClaim := { program := "ytolppdcaaoghgaa", sum := "3b34890ee0e59dfcebbaeb37139d16ee097b6338b4e2744933583e6abd589ae4", func := "flightdeck/flightdecklaw54.ResyncWhole", spec := "resyncWhole", unfollowed := true, recurses := true, apart := false, narrowed := true }
def ResyncWholeUptoSaid : Prop := resyncWholeUptoRow.holds Try.pinned (OpenSpec.upto resyncWholeSpec)

end Rows
end Go.Proofs.Ytolppdcaaoghgaa
