/-
  No cell of these rows narrows 'for every input' (looked for: loops, veiled, ifaces, maps, wideKeys, modest, calm, conditions, laid).
  DERIVED. THE GIVEN ROWS OF THIS SEAT. 10 by the template 'for every input the law returns true; each argument reads behind the call as it read before'; 0 by the template 'total and deterministic' (their statements: YtgnajpoebooafaaTotals.lean).
  GIVEN WITH THE SEED: the statements are not yours to turn. If you find one false, say at which input.
  Laid BY PROGRAM, IN A SANDBOX (cutbox-rows.mjs): the forced cells as the released guide's own fill.sh prints them over the translation 926d65bbe6f4e1e9… (all of the seat's roots in one cut). By AI agents, Wed Nov 11 2026. No macro, syntax, notation, axiom, sorry.
-/
import Derived.Test.YtgnajpoebooafaaChecked
import GoSem.Claim
import GoSem.ClaimJoined
import GoSem.ClaimMapViews
import Derived.JoinedTies
import Derived.KernelRfl
namespace Go.Proofs.Ytgnajpoebooafaa
/- THE CELL 'sum', in the pinned program and in every row, IS THE sha256 OF THE DUMP (.gsa) THAT YtgnajpoebooafaaProg.lean LOADS. Nothing in Lean hashes anything: it is a label: what it is worth is what the hold of that sum in a sandbox is worth. -/
noncomputable def Try.pinned : Pinned := { name := "ytgnajpoebooafaa", sum := "926d65bbe6f4e1e91f12de5a30479d988ae0bf6fc97294ce08591eb34fa8a516", checked := Try.checked }
namespace Rows
def none {H : Type} : Left H := { results := [], args := [] }

/-- 'flightdecklaw53.AgreePacks': WHATEVER THE INPUT: true; the input reads as it did. -/
def agreePacksSpec : ChangeSpec := { name := "agreePacks", fn := fun _ => fun
  | [d1, d2, d3] => { results := [.lit (.bool true)], args := [d1, d2, d3] }
  | _ => none }
def agreePacksRow : OpenClaim := { program := "ytgnajpoebooafaa", sum := "926d65bbe6f4e1e91f12de5a30479d988ae0bf6fc97294ce08591eb34fa8a516", func := "flightdeck/flightdecklaw53.AgreePacks", spec := "agreePacks", unfollowed := true, recurses := true, apart := false }
def AgreePacksSaid : Prop := agreePacksRow.holds Try.pinned (OpenSpec.ofChange agreePacksSpec)

/-- ITS FALSE NEIGHBOUR: 'it returns false'. Refute it at one input. -/
def agreePacksWrong : ChangeSpec := { name := "agreePacks", fn := fun _ => fun
  | [d1, d2, d3] => { results := [.lit (.bool false)], args := [d1, d2, d3] }
  | _ => none }
def AgreePacksWrongFalsely : Prop := agreePacksRow.holds Try.pinned (OpenSpec.ofChange agreePacksWrong)

/-- 'flightdecklaw53.AgreeDecides': WHATEVER THE INPUT: true; the input reads as it did. -/
def agreeDecidesSpec : ChangeSpec := { name := "agreeDecides", fn := fun _ => fun
  | [d] => { results := [.lit (.bool true)], args := [d] }
  | _ => none }
def agreeDecidesRow : OpenClaim := { program := "ytgnajpoebooafaa", sum := "926d65bbe6f4e1e91f12de5a30479d988ae0bf6fc97294ce08591eb34fa8a516", func := "flightdeck/flightdecklaw53.AgreeDecides", spec := "agreeDecides", unfollowed := true, recurses := true, apart := false }
def AgreeDecidesSaid : Prop := agreeDecidesRow.holds Try.pinned (OpenSpec.ofChange agreeDecidesSpec)

/-- ITS FALSE NEIGHBOUR: 'it returns false'. Refute it at one input. -/
def agreeDecidesWrong : ChangeSpec := { name := "agreeDecides", fn := fun _ => fun
  | [d] => { results := [.lit (.bool false)], args := [d] }
  | _ => none }
def AgreeDecidesWrongFalsely : Prop := agreeDecidesRow.holds Try.pinned (OpenSpec.ofChange agreeDecidesWrong)

/-- 'flightdecklaw53.AgreeOne': WHATEVER THE INPUT: true; the input reads as it did. -/
def agreeOneSpec : ChangeSpec := { name := "agreeOne", fn := fun _ => fun
  | [d] => { results := [.lit (.bool true)], args := [d] }
  | _ => none }
def agreeOneRow : OpenClaim := { program := "ytgnajpoebooafaa", sum := "926d65bbe6f4e1e91f12de5a30479d988ae0bf6fc97294ce08591eb34fa8a516", func := "flightdeck/flightdecklaw53.AgreeOne", spec := "agreeOne", unfollowed := true, recurses := true, apart := false }
def AgreeOneSaid : Prop := agreeOneRow.holds Try.pinned (OpenSpec.ofChange agreeOneSpec)

/-- ITS FALSE NEIGHBOUR: 'it returns false'. Refute it at one input. -/
def agreeOneWrong : ChangeSpec := { name := "agreeOne", fn := fun _ => fun
  | [d] => { results := [.lit (.bool false)], args := [d] }
  | _ => none }
def AgreeOneWrongFalsely : Prop := agreeOneRow.holds Try.pinned (OpenSpec.ofChange agreeOneWrong)

/-- 'flightdecklaw53.AgreeResults': WHATEVER THE INPUT: true; the input reads as it did. -/
def agreeResultsSpec : ChangeSpec := { name := "agreeResults", fn := fun _ => fun
  | [d1, d2] => { results := [.lit (.bool true)], args := [d1, d2] }
  | _ => none }
def agreeResultsRow : OpenClaim := { program := "ytgnajpoebooafaa", sum := "926d65bbe6f4e1e91f12de5a30479d988ae0bf6fc97294ce08591eb34fa8a516", func := "flightdeck/flightdecklaw53.AgreeResults", spec := "agreeResults", unfollowed := true, recurses := true, apart := false }
def AgreeResultsSaid : Prop := agreeResultsRow.holds Try.pinned (OpenSpec.ofChange agreeResultsSpec)

/-- ITS FALSE NEIGHBOUR: 'it returns false'. Refute it at one input. -/
def agreeResultsWrong : ChangeSpec := { name := "agreeResults", fn := fun _ => fun
  | [d1, d2] => { results := [.lit (.bool false)], args := [d1, d2] }
  | _ => none }
def AgreeResultsWrongFalsely : Prop := agreeResultsRow.holds Try.pinned (OpenSpec.ofChange agreeResultsWrong)

/-- 'flightdecklaw53.AgreeHellos': WHATEVER THE INPUT: true; the input reads as it did. -/
def agreeHellosSpec : ChangeSpec := { name := "agreeHellos", fn := fun _ => fun
  | [d1, d2] => { results := [.lit (.bool true)], args := [d1, d2] }
  | _ => none }
def agreeHellosRow : OpenClaim := { program := "ytgnajpoebooafaa", sum := "926d65bbe6f4e1e91f12de5a30479d988ae0bf6fc97294ce08591eb34fa8a516", func := "flightdeck/flightdecklaw53.AgreeHellos", spec := "agreeHellos", unfollowed := true, recurses := true, apart := false }
def AgreeHellosSaid : Prop := agreeHellosRow.holds Try.pinned (OpenSpec.ofChange agreeHellosSpec)

/-- ITS FALSE NEIGHBOUR: 'it returns false'. Refute it at one input. -/
def agreeHellosWrong : ChangeSpec := { name := "agreeHellos", fn := fun _ => fun
  | [d1, d2] => { results := [.lit (.bool false)], args := [d1, d2] }
  | _ => none }
def AgreeHellosWrongFalsely : Prop := agreeHellosRow.holds Try.pinned (OpenSpec.ofChange agreeHellosWrong)

/-- 'flightdecklaw53.AgreeSets': WHATEVER THE INPUT: true; the input reads as it did. -/
def agreeSetsSpec : ChangeSpec := { name := "agreeSets", fn := fun _ => fun
  | [d1, d2] => { results := [.lit (.bool true)], args := [d1, d2] }
  | _ => none }
def agreeSetsRow : OpenClaim := { program := "ytgnajpoebooafaa", sum := "926d65bbe6f4e1e91f12de5a30479d988ae0bf6fc97294ce08591eb34fa8a516", func := "flightdeck/flightdecklaw53.AgreeSets", spec := "agreeSets", unfollowed := true, recurses := true, apart := false }
def AgreeSetsSaid : Prop := agreeSetsRow.holds Try.pinned (OpenSpec.ofChange agreeSetsSpec)

/-- ITS FALSE NEIGHBOUR: 'it returns false'. Refute it at one input. -/
def agreeSetsWrong : ChangeSpec := { name := "agreeSets", fn := fun _ => fun
  | [d1, d2] => { results := [.lit (.bool false)], args := [d1, d2] }
  | _ => none }
def AgreeSetsWrongFalsely : Prop := agreeSetsRow.holds Try.pinned (OpenSpec.ofChange agreeSetsWrong)

/-- 'flightdecklaw53.AgreeValid': WHATEVER THE INPUT: true; the input reads as it did. -/
def agreeValidSpec : ChangeSpec := { name := "agreeValid", fn := fun _ => fun
  | [d1, d2] => { results := [.lit (.bool true)], args := [d1, d2] }
  | _ => none }
def agreeValidRow : OpenClaim := { program := "ytgnajpoebooafaa", sum := "926d65bbe6f4e1e91f12de5a30479d988ae0bf6fc97294ce08591eb34fa8a516", func := "flightdeck/flightdecklaw53.AgreeValid", spec := "agreeValid", unfollowed := true, recurses := true, apart := false }
def AgreeValidSaid : Prop := agreeValidRow.holds Try.pinned (OpenSpec.ofChange agreeValidSpec)

/-- ITS FALSE NEIGHBOUR: 'it returns false'. Refute it at one input. -/
def agreeValidWrong : ChangeSpec := { name := "agreeValid", fn := fun _ => fun
  | [d1, d2] => { results := [.lit (.bool false)], args := [d1, d2] }
  | _ => none }
def AgreeValidWrongFalsely : Prop := agreeValidRow.holds Try.pinned (OpenSpec.ofChange agreeValidWrong)

/-- 'flightdecklaw53.AgreeQuiet': WHATEVER THE INPUT: true; the input reads as it did. -/
def agreeQuietSpec : ChangeSpec := { name := "agreeQuiet", fn := fun _ => fun
  | [d1, d2] => { results := [.lit (.bool true)], args := [d1, d2] }
  | _ => none }
def agreeQuietRow : OpenClaim := { program := "ytgnajpoebooafaa", sum := "926d65bbe6f4e1e91f12de5a30479d988ae0bf6fc97294ce08591eb34fa8a516", func := "flightdeck/flightdecklaw53.AgreeQuiet", spec := "agreeQuiet", unfollowed := true, recurses := true, apart := false }
def AgreeQuietSaid : Prop := agreeQuietRow.holds Try.pinned (OpenSpec.ofChange agreeQuietSpec)

/-- ITS FALSE NEIGHBOUR: 'it returns false'. Refute it at one input. -/
def agreeQuietWrong : ChangeSpec := { name := "agreeQuiet", fn := fun _ => fun
  | [d1, d2] => { results := [.lit (.bool false)], args := [d1, d2] }
  | _ => none }
def AgreeQuietWrongFalsely : Prop := agreeQuietRow.holds Try.pinned (OpenSpec.ofChange agreeQuietWrong)

/-- 'flightdecklaw53.AgreeNodes': WHATEVER THE INPUT: true; the input reads as it did. -/
def agreeNodesSpec : ChangeSpec := { name := "agreeNodes", fn := fun _ => fun
  | [d1, d2] => { results := [.lit (.bool true)], args := [d1, d2] }
  | _ => none }
def agreeNodesRow : OpenClaim := { program := "ytgnajpoebooafaa", sum := "926d65bbe6f4e1e91f12de5a30479d988ae0bf6fc97294ce08591eb34fa8a516", func := "flightdeck/flightdecklaw53.AgreeNodes", spec := "agreeNodes", unfollowed := true, recurses := true, apart := false }
def AgreeNodesSaid : Prop := agreeNodesRow.holds Try.pinned (OpenSpec.ofChange agreeNodesSpec)

/-- ITS FALSE NEIGHBOUR: 'it returns false'. Refute it at one input. -/
def agreeNodesWrong : ChangeSpec := { name := "agreeNodes", fn := fun _ => fun
  | [d1, d2] => { results := [.lit (.bool false)], args := [d1, d2] }
  | _ => none }
def AgreeNodesWrongFalsely : Prop := agreeNodesRow.holds Try.pinned (OpenSpec.ofChange agreeNodesWrong)

/-- 'flightdecklaw53.AgreeClones': WHATEVER THE INPUT: true; the input reads as it did. -/
def agreeClonesSpec : ChangeSpec := { name := "agreeClones", fn := fun _ => fun
  | [d1, d2] => { results := [.lit (.bool true)], args := [d1, d2] }
  | _ => none }
def agreeClonesRow : OpenClaim := { program := "ytgnajpoebooafaa", sum := "926d65bbe6f4e1e91f12de5a30479d988ae0bf6fc97294ce08591eb34fa8a516", func := "flightdeck/flightdecklaw53.AgreeClones", spec := "agreeClones", unfollowed := true, recurses := true, apart := false }
def AgreeClonesSaid : Prop := agreeClonesRow.holds Try.pinned (OpenSpec.ofChange agreeClonesSpec)

/-- ITS FALSE NEIGHBOUR: 'it returns false'. Refute it at one input. -/
def agreeClonesWrong : ChangeSpec := { name := "agreeClones", fn := fun _ => fun
  | [d1, d2] => { results := [.lit (.bool false)], args := [d1, d2] }
  | _ => none }
def AgreeClonesWrongFalsely : Prop := agreeClonesRow.holds Try.pinned (OpenSpec.ofChange agreeClonesWrong)

/- THE SECOND FORM. 'bulk': how many values and letters a reading holds, each counted each time it is reached (what is shared counts as often as it is met; a slice's spare places count too). A statement '..UptoSaid' is the law's where the arguments, and the package variables that the reading takes, are together of bulk at most 1048576: NARROWER than '..Said'. Prove '..Said' where nothing that the law and all that it calls make is longer than what came in: it says more and counts as full. Else prove '..UptoSaid'. A law counts once. -/
mutual
def uptoBulk {H : Type} : DataW H → Nat
  | .lit (.string bytes) => bytes.length + 1
  | .lit _ => 1
  | .nil => 1
  | .ptr d => uptoBulk d + 1
  | .slice elems spare => uptoBulkAll elems + uptoBulkAll spare + 1
  | .agg parts => uptoBulkAll parts + 1
  | .iface _ d => uptoBulk d + 1
  | .map entries => uptoBulkEntries entries + 1
  | .held _ => 1
def uptoBulkAll {H : Type} : List (DataW H) → Nat
  | [] => 0
  | d :: r => uptoBulk d + uptoBulkAll r
def uptoBulkEntries {H : Type} : List (Lit × DataW H) → Nat
  | [] => 0
  | x :: r => uptoBulkEntry x + uptoBulkEntries r
def uptoBulkEntry {H : Type} : Lit × DataW H → Nat
  | (.string bytes, d) => bytes.length + uptoBulk d + 1
  | (_, d) => uptoBulk d + 1
 end
def uptoSmall : (H : Type) → List (DataW H) → Bool := fun _ ds => decide (uptoBulkAll ds ≤ 1048576)
def OpenSpec.upto (s : _root_.Go.ChangeSpec) : _root_.Go.OpenSpec := { _root_.Go.OpenSpec.ofChange s with cond := some uptoSmall }

/-- 'flightdecklaw53.AgreePacks', WHERE WHAT IT READS IS OF BULK AT MOST 1048576: true; the input reads as it did. -/
def agreePacksUptoRow : OpenClaim := { program := "ytgnajpoebooafaa", sum := "926d65bbe6f4e1e91f12de5a30479d988ae0bf6fc97294ce08591eb34fa8a516", func := "flightdeck/flightdecklaw53.AgreePacks", spec := "agreePacks", unfollowed := true, recurses := true, apart := false, narrowed := true }
def AgreePacksUptoSaid : Prop := agreePacksUptoRow.holds Try.pinned (OpenSpec.upto agreePacksSpec)

/-- 'flightdecklaw53.AgreeDecides', WHERE WHAT IT READS IS OF BULK AT MOST 1048576: true; the input reads as it did. -/
def agreeDecidesUptoRow : OpenClaim := { program := "ytgnajpoebooafaa", sum := "926d65bbe6f4e1e91f12de5a30479d988ae0bf6fc97294ce08591eb34fa8a516", func := "flightdeck/flightdecklaw53.AgreeDecides", spec := "agreeDecides", unfollowed := true, recurses := true, apart := false, narrowed := true }
def AgreeDecidesUptoSaid : Prop := agreeDecidesUptoRow.holds Try.pinned (OpenSpec.upto agreeDecidesSpec)

/-- 'flightdecklaw53.AgreeOne', WHERE WHAT IT READS IS OF BULK AT MOST 1048576: true; the input reads as it did. -/
def agreeOneUptoRow : OpenClaim := { program := "ytgnajpoebooafaa", sum := "926d65bbe6f4e1e91f12de5a30479d988ae0bf6fc97294ce08591eb34fa8a516", func := "flightdeck/flightdecklaw53.AgreeOne", spec := "agreeOne", unfollowed := true, recurses := true, apart := false, narrowed := true }
def AgreeOneUptoSaid : Prop := agreeOneUptoRow.holds Try.pinned (OpenSpec.upto agreeOneSpec)

/-- 'flightdecklaw53.AgreeResults', WHERE WHAT IT READS IS OF BULK AT MOST 1048576: true; the input reads as it did. -/
def agreeResultsUptoRow : OpenClaim := { program := "ytgnajpoebooafaa", sum := "926d65bbe6f4e1e91f12de5a30479d988ae0bf6fc97294ce08591eb34fa8a516", func := "flightdeck/flightdecklaw53.AgreeResults", spec := "agreeResults", unfollowed := true, recurses := true, apart := false, narrowed := true }
def AgreeResultsUptoSaid : Prop := agreeResultsUptoRow.holds Try.pinned (OpenSpec.upto agreeResultsSpec)

/-- 'flightdecklaw53.AgreeHellos', WHERE WHAT IT READS IS OF BULK AT MOST 1048576: true; the input reads as it did. -/
def agreeHellosUptoRow : OpenClaim := { program := "ytgnajpoebooafaa", sum := "926d65bbe6f4e1e91f12de5a30479d988ae0bf6fc97294ce08591eb34fa8a516", func := "flightdeck/flightdecklaw53.AgreeHellos", spec := "agreeHellos", unfollowed := true, recurses := true, apart := false, narrowed := true }
def AgreeHellosUptoSaid : Prop := agreeHellosUptoRow.holds Try.pinned (OpenSpec.upto agreeHellosSpec)

/-- 'flightdecklaw53.AgreeSets', WHERE WHAT IT READS IS OF BULK AT MOST 1048576: true; the input reads as it did. -/
def agreeSetsUptoRow : OpenClaim := { program := "ytgnajpoebooafaa", sum := "926d65bbe6f4e1e91f12de5a30479d988ae0bf6fc97294ce08591eb34fa8a516", func := "flightdeck/flightdecklaw53.AgreeSets", spec := "agreeSets", unfollowed := true, recurses := true, apart := false, narrowed := true }
def AgreeSetsUptoSaid : Prop := agreeSetsUptoRow.holds Try.pinned (OpenSpec.upto agreeSetsSpec)

/-- 'flightdecklaw53.AgreeValid', WHERE WHAT IT READS IS OF BULK AT MOST 1048576: true; the input reads as it did. -/
def agreeValidUptoRow : OpenClaim := { program := "ytgnajpoebooafaa", sum := "926d65bbe6f4e1e91f12de5a30479d988ae0bf6fc97294ce08591eb34fa8a516", func := "flightdeck/flightdecklaw53.AgreeValid", spec := "agreeValid", unfollowed := true, recurses := true, apart := false, narrowed := true }
def AgreeValidUptoSaid : Prop := agreeValidUptoRow.holds Try.pinned (OpenSpec.upto agreeValidSpec)

/-- 'flightdecklaw53.AgreeQuiet', WHERE WHAT IT READS IS OF BULK AT MOST 1048576: true; the input reads as it did. -/
def agreeQuietUptoRow : OpenClaim := { program := "ytgnajpoebooafaa", sum := "926d65bbe6f4e1e91f12de5a30479d988ae0bf6fc97294ce08591eb34fa8a516", func := "flightdeck/flightdecklaw53.AgreeQuiet", spec := "agreeQuiet", unfollowed := true, recurses := true, apart := false, narrowed := true }
def AgreeQuietUptoSaid : Prop := agreeQuietUptoRow.holds Try.pinned (OpenSpec.upto agreeQuietSpec)

/-- 'flightdecklaw53.AgreeNodes', WHERE WHAT IT READS IS OF BULK AT MOST 1048576: true; the input reads as it did. -/
def agreeNodesUptoRow : OpenClaim := { program := "ytgnajpoebooafaa", sum := "926d65bbe6f4e1e91f12de5a30479d988ae0bf6fc97294ce08591eb34fa8a516", func := "flightdeck/flightdecklaw53.AgreeNodes", spec := "agreeNodes", unfollowed := true, recurses := true, apart := false, narrowed := true }
def AgreeNodesUptoSaid : Prop := agreeNodesUptoRow.holds Try.pinned (OpenSpec.upto agreeNodesSpec)

/-- 'flightdecklaw53.AgreeClones', WHERE WHAT IT READS IS OF BULK AT MOST 1048576: true; the input reads as it did. -/
def agreeClonesUptoRow : OpenClaim := { program := "ytgnajpoebooafaa", sum := "926d65bbe6f4e1e91f12de5a30479d988ae0bf6fc97294ce08591eb34fa8a516", func := "flightdeck/flightdecklaw53.AgreeClones", spec := "agreeClones", unfollowed := true, recurses := true, apart := false, narrowed := true }
def AgreeClonesUptoSaid : Prop := agreeClonesUptoRow.holds Try.pinned (OpenSpec.upto agreeClonesSpec)

end Rows
end Go.Proofs.Ytgnajpoebooafaa
