/-
  No cell of these rows narrows 'for every input' (looked for: loops, veiled, ifaces, maps, wideKeys, modest, calm, conditions, laid).
  DERIVED. THE GIVEN ROWS OF THIS SEAT. 4 by the template 'for every input the law returns true; each argument reads behind the call as it read before'; 0 by the template 'total and deterministic' (their statements: YtpleflcfaecojaaGreatTotals.lean).
  GIVEN WITH THE SEED: the statements are not yours to turn. If you find one false, say at which input.
  Laid BY PROGRAM, IN A SANDBOX (cutbox-rows.mjs): the forced cells as the released guide's own fill.sh prints them over the translation be45127fda69405a… (all of the seat's roots in one cut). By AI agents, Wed Nov 11 2026. No macro, syntax, notation, axiom, sorry.
-/
import Derived.Test.YtpleflcfaecojaaGreatChecked
import GoSem.Claim
import GoSem.ClaimJoined
import GoSem.ClaimMapViews
import Derived.JoinedTies
import Derived.KernelRfl
namespace Go.Proofs.YtpleflcfaecojaaGreat
/- THE CELL 'sum', in the pinned program and in every row, IS THE sha256 OF THE DUMP (.gsa) THAT YtpleflcfaecojaaGreatProg.lean LOADS. Nothing in Lean hashes anything: it is a label: what it is worth is what the hold of that sum in a sandbox is worth. -/
noncomputable def Tryz.pinned : Pinned := { name := "ytpleflcfaecojaagreat", sum := "be45127fda69405a096ebf112559bc027008be6349228430a56c4655c32a8bb7", checked := Tryz.checked }
namespace Rows
def none {H : Type} : Left H := { results := [], args := [] }

/-- 'flightdecklaw54.ResyncAlike': WHATEVER THE INPUT: true; the input reads as it did. -/
def resyncAlikeSpec : ChangeSpec := { name := "resyncAlike", fn := fun _ => fun
  | [d] => { results := [.lit (.bool true)], args := [d] }
  | _ => none }
def resyncAlikeRow : OpenClaim := { program := "ytpleflcfaecojaagreat", sum := "be45127fda69405a096ebf112559bc027008be6349228430a56c4655c32a8bb7", func := "flightdeck/flightdecklaw54.ResyncAlike", spec := "resyncAlike", unfollowed := true, recurses := true, apart := false }
def ResyncAlikeSaid : Prop := resyncAlikeRow.holds Tryz.pinned (OpenSpec.ofChange resyncAlikeSpec)

/-- ITS FALSE NEIGHBOUR: 'it returns false'. Refute it at one input. -/
def resyncAlikeWrong : ChangeSpec := { name := "resyncAlike", fn := fun _ => fun
  | [d] => { results := [.lit (.bool false)], args := [d] }
  | _ => none }
def ResyncAlikeWrongFalsely : Prop := resyncAlikeRow.holds Tryz.pinned (OpenSpec.ofChange resyncAlikeWrong)

/-- 'flightdecklaw54.ResyncReturns': WHATEVER THE INPUT: true; the input reads as it did. -/
def resyncReturnsSpec : ChangeSpec := { name := "resyncReturns", fn := fun _ => fun
  | [d] => { results := [.lit (.bool true)], args := [d] }
  | _ => none }
def resyncReturnsRow : OpenClaim := { program := "ytpleflcfaecojaagreat", sum := "be45127fda69405a096ebf112559bc027008be6349228430a56c4655c32a8bb7", func := "flightdeck/flightdecklaw54.ResyncReturns", spec := "resyncReturns", unfollowed := true, recurses := true, apart := false }
def ResyncReturnsSaid : Prop := resyncReturnsRow.holds Tryz.pinned (OpenSpec.ofChange resyncReturnsSpec)

/-- ITS FALSE NEIGHBOUR: 'it returns false'. Refute it at one input. -/
def resyncReturnsWrong : ChangeSpec := { name := "resyncReturns", fn := fun _ => fun
  | [d] => { results := [.lit (.bool false)], args := [d] }
  | _ => none }
def ResyncReturnsWrongFalsely : Prop := resyncReturnsRow.holds Tryz.pinned (OpenSpec.ofChange resyncReturnsWrong)

/-- 'flightdecklaw54.ResyncPairs': WHATEVER THE INPUT: true; the input reads as it did. -/
def resyncPairsSpec : ChangeSpec := { name := "resyncPairs", fn := fun _ => fun
  | [d] => { results := [.lit (.bool true)], args := [d] }
  | _ => none }
def resyncPairsRow : OpenClaim := { program := "ytpleflcfaecojaagreat", sum := "be45127fda69405a096ebf112559bc027008be6349228430a56c4655c32a8bb7", func := "flightdeck/flightdecklaw54.ResyncPairs", spec := "resyncPairs", unfollowed := true, recurses := true, apart := false }
def ResyncPairsSaid : Prop := resyncPairsRow.holds Tryz.pinned (OpenSpec.ofChange resyncPairsSpec)

/-- ITS FALSE NEIGHBOUR: 'it returns false'. Refute it at one input. -/
def resyncPairsWrong : ChangeSpec := { name := "resyncPairs", fn := fun _ => fun
  | [d] => { results := [.lit (.bool false)], args := [d] }
  | _ => none }
def ResyncPairsWrongFalsely : Prop := resyncPairsRow.holds Tryz.pinned (OpenSpec.ofChange resyncPairsWrong)

/-- 'flightdecklaw54.ResyncSmooth': WHATEVER THE INPUT: true; the input reads as it did. -/
def resyncSmoothSpec : ChangeSpec := { name := "resyncSmooth", fn := fun _ => fun
  | [d] => { results := [.lit (.bool true)], args := [d] }
  | _ => none }
def resyncSmoothRow : OpenClaim := { program := "ytpleflcfaecojaagreat", sum := "be45127fda69405a096ebf112559bc027008be6349228430a56c4655c32a8bb7", func := "flightdeck/flightdecklaw54.ResyncSmooth", spec := "resyncSmooth", unfollowed := true, recurses := true, apart := false }
def ResyncSmoothSaid : Prop := resyncSmoothRow.holds Tryz.pinned (OpenSpec.ofChange resyncSmoothSpec)

/-- ITS FALSE NEIGHBOUR: 'it returns false'. Refute it at one input. -/
def resyncSmoothWrong : ChangeSpec := { name := "resyncSmooth", fn := fun _ => fun
  | [d] => { results := [.lit (.bool false)], args := [d] }
  | _ => none }
def ResyncSmoothWrongFalsely : Prop := resyncSmoothRow.holds Tryz.pinned (OpenSpec.ofChange resyncSmoothWrong)

/- THE SECOND FORM. 'bulk': how many values and letters a reading holds, each counted each time it is reached (what is shared counts as often as it is met; a slice's spare places count too). A statement '..UptoSaid' is the law's where the arguments, and the package variables that the reading takes, are together of bulk at most 1048576: NARROWER than '..Said'. Prove '..Said' where nothing that the law and all that it calls make is longer than what came in: it says more and counts as full. Else prove '..UptoSaid'. A law counts once. -/
mutual
def uptoBulk {H : Type} : DataW H → Nat
  | .lit (.string bytes) => bytes.length + 1
  | .lit _ => 1
  | .nil => 1
  | .ptr d => uptoBulk d + 1
  | .slice elems spare => uptoBulkAll elems + uptoBulkAll spare + 1
  | .agg parts => uptoBulkAll parts + 1
  | .iface _ d => uptoBulk d + 1
  | .map entries => uptoBulkEntries entries + 1
  | .held _ => 1
def uptoBulkAll {H : Type} : List (DataW H) → Nat
  | [] => 0
  | d :: r => uptoBulk d + uptoBulkAll r
def uptoBulkEntries {H : Type} : List (Lit × DataW H) → Nat
  | [] => 0
  | x :: r => uptoBulkEntry x + uptoBulkEntries r
def uptoBulkEntry {H : Type} : Lit × DataW H → Nat
  | (.string bytes, d) => bytes.length + uptoBulk d + 1
  | (_, d) => uptoBulk d + 1
 end
def uptoSmall : (H : Type) → List (DataW H) → Bool := fun _ ds => decide (uptoBulkAll ds ≤ 1048576)
def OpenSpec.upto (s : _root_.Go.ChangeSpec) : _root_.Go.OpenSpec := { _root_.Go.OpenSpec.ofChange s with cond := some uptoSmall }

/-- 'flightdecklaw54.ResyncAlike', WHERE WHAT IT READS IS OF BULK AT MOST 1048576: true; the input reads as it did. -/
def resyncAlikeUptoRow : OpenClaim := { program := "ytpleflcfaecojaagreat", sum := "be45127fda69405a096ebf112559bc027008be6349228430a56c4655c32a8bb7", func := "flightdeck/flightdecklaw54.ResyncAlike", spec := "resyncAlike", unfollowed := true, recurses := true, apart := false, narrowed := true }
def ResyncAlikeUptoSaid : Prop := resyncAlikeUptoRow.holds Tryz.pinned (OpenSpec.upto resyncAlikeSpec)

/-- 'flightdecklaw54.ResyncReturns', WHERE WHAT IT READS IS OF BULK AT MOST 1048576: true; the input reads as it did. -/
def resyncReturnsUptoRow : OpenClaim := { program := "ytpleflcfaecojaagreat", sum := "be45127fda69405a096ebf112559bc027008be6349228430a56c4655c32a8bb7", func := "flightdeck/flightdecklaw54.ResyncReturns", spec := "resyncReturns", unfollowed := true, recurses := true, apart := false, narrowed := true }
def ResyncReturnsUptoSaid : Prop := resyncReturnsUptoRow.holds Tryz.pinned (OpenSpec.upto resyncReturnsSpec)

/-- 'flightdecklaw54.ResyncPairs', WHERE WHAT IT READS IS OF BULK AT MOST 1048576: true; the input reads as it did. -/
def resyncPairsUptoRow : OpenClaim := { program := "ytpleflcfaecojaagreat", sum := "be45127fda69405a096ebf112559bc027008be6349228430a56c4655c32a8bb7", func := "flightdeck/flightdecklaw54.ResyncPairs", spec := "resyncPairs", unfollowed := true, recurses := true, apart := false, narrowed := true }
def ResyncPairsUptoSaid : Prop := resyncPairsUptoRow.holds Tryz.pinned (OpenSpec.upto resyncPairsSpec)

/-- 'flightdecklaw54.ResyncSmooth', WHERE WHAT IT READS IS OF BULK AT MOST 1048576: true; the input reads as it did. -/
def resyncSmoothUptoRow : OpenClaim := { program := "ytpleflcfaecojaagreat", sum := "be45127fda69405a096ebf112559bc027008be6349228430a56c4655c32a8bb7", func := "flightdeck/flightdecklaw54.ResyncSmooth", spec := "resyncSmooth", unfollowed := true, recurses := true, apart := false, narrowed := true }
def ResyncSmoothUptoSaid : Prop := resyncSmoothUptoRow.holds Tryz.pinned (OpenSpec.upto resyncSmoothSpec)

end Rows
end Go.Proofs.YtpleflcfaecojaaGreat
