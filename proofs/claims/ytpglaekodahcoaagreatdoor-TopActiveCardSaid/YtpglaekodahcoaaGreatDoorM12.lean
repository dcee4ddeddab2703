/-
TopActive returns true for every input. Conditions: none.
-/
import Derived.Test.YtpglaekodahcoaaGreatDoorM11
import Derived.Test.YtpglaekodahcoaaGreatDoorTie
import Derived.Test.YtpglaekodahcoaaGreatDoorCards
import Derived.SevenTiedAt
namespace Go.Proofs.YtpglaekodahcoaaGreatDoor
set_option linter.unusedVariables false
set_option linter.unusedSimpArgs false
set_option maxRecDepth 100000
open Go.RowKit Go.WideShapes Go.ChangeShapes Go.ChangeAt
theorem topActive_holds : Rows.TopActiveSaid :=
  OpenClaim.holds_of_wide 3 Tryz.f3 rfl rfl rfl rfl rfl rfl rfl ⟨rfl, rfl, rfl, rfl, rfl⟩ rfl rfl rfl rfl rfl (by kernel_rfl) Tryz.func3 jf8
    (of_decide_eq_true (by kernel_rfl)) (by unfold Func.isWrapper; first | (rw [if_pos (by decide +kernel)]; kernel_rfl) | (rw [if_neg (by decide +kernel)]; exact ⟨rfl, rfl⟩))
    (fun os started H enc _ => topActive_lifted os started H enc)
theorem topActive_card : Rows.TopActiveCardSaid :=
  Claim7.holds_tied_plain_at .later [] [.data, .data, .data, .data, .sentinel, .sentinel, .data, .data, .pinned] true (true, "27a8041fd38b22cb460d6b7299e697cde53dde6f6f50b869bc665d3c32f8c90f") true
    topActive_holds (fun _ h => by cases h) jf9 (fun _ h => by cases h) topActive_row_tie rfl ⟨rfl, rfl⟩ jf10 rfl
    (fun f fn hf hfn => by
      obtain rfl : f = 3 := Option.some.inj ((show Tryz.prog.funcNamed Tryz.f3.name = some 3 by kernel_rfl).symm.trans hf) |>.symm
      obtain rfl : fn = Tryz.f3 := (Option.some.inj (Tryz.func3.symm.trans hfn)).symm
      exact ⟨jf11, fun j t ht => by
        rw [Tryz.params3] at ht
        have hm : t ∈ [30, 30, 31] := by simpa using Array.mem_of_getElem? ht
        have hall : ([30, 30, 31].all fun u => !Tryz.prog.wantsStandIn u) = true := by kernel_rfl
        exact (show Tryz.prog.wantsStandIn t = false by simpa using List.all_eq_true.1 hall t hm)⟩)
    jf12
end Go.Proofs.YtpglaekodahcoaaGreatDoor
