/-
Serve of the program and of the reference give the same. Conditions: none.
-/
import Derived.Test.YtolppdcaaoghgaaW5
import Derived.Test.YtolppdcaaoghgaaW7
namespace Go.Proofs.Ytolppdcaaoghgaa
set_option linter.unusedVariables false
set_option linter.unusedSimpArgs false
open Go.RowKit
theorem askSize {x : Ask} (h : okAsk x) : 0 ≤ x.size ∧ x.size ≤ 65535 := by
  have := h.2.2.2.1
  simpa [inK, IntKind.min, IntKind.max, IntKind.signed, IntKind.bits] using this
theorem serve_eq (s : Sender) (w : Want) (st : Int) (sv : List UInt8) : serveS s w st sv = rserveS s w st sv := by
  have e : ∀ p : Piece, copiedS p = p := fun p => rfl
  unfold serveS rserveS
  rw [e, e, show (w.base == (List.getD s.pieces 0 default).base) = ((List.getD s.pieces 0 default).base == w.base) from Bool.beq_comm]
theorem samePiece_refl (p : Piece) : samePieceS p p = true := by simp [samePieceS]
theorem serve_ok {ps qs : List Piece} {w : Want} {st : Int} {sv : List UInt8} (h : ps = qs) : ((!(samePieceS (serveS ⟨ps⟩ w st sv).2.1 (rserveS ⟨qs⟩ w st sv).2.1)) || ((serveS ⟨ps⟩ w st sv).2.2 != (rserveS ⟨qs⟩ w st sv).2.2)) = false := by
  subst h
  rw [serve_eq, samePiece_refl]
  simp
theorem serve_he {ps qs : List Piece} {w : Want} {st : Int} {sv : List UInt8} (h : ps = qs) : (serveS ⟨ps⟩ w st sv).1.pieces = (rserveS ⟨qs⟩ w st sv).1.pieces := by
  subst h
  rw [serve_eq]
end Go.Proofs.Ytolppdcaaoghgaa
