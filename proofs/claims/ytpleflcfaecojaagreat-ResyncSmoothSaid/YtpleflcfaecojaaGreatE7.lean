/-
The engine, part 7: the rules as the printing program uses them: each side condition a closed equation. Conditions: each lemma's own.
-/
import Derived.Test.YtpleflcfaecojaaGreatE6
namespace Go.Proofs.YtpleflcfaecojaaGreat
set_option linter.unusedVariables false
set_option linter.unusedSimpArgs false
open Go.RowKit
section
variable {P : Program} {ops : Array Oper} {Q : Exit → Act → World → Prop} {n : Nat} {g : Gh} {own : Own} {sl : Sl} {ty : TypeId} {p : Psi}
end
theorem wr64 {x : Int} (h : -9223372036854775808 ≤ x ∧ x ≤ 9223372036854775807) : IntKind.i64.wrap x = x := IntWalk.i64_in x h
theorem wr_u64 {x : Int} (h : 0 ≤ x ∧ x ≤ 18446744073709551615) : IntKind.u64.wrap x = x := by
  rw [IntKind.wrap_u64]; omega
def maxI (a b : Int) : Int := if b > a then b else a
def minI (a b : Int) : Int := if b < a then b else a
def landK (k : IntKind) (a b : Int) : Int := k.wrap (BitVec.ofInt k.bits a &&& BitVec.ofInt k.bits b).toNat
def lorK (k : IntKind) (a b : Int) : Int := k.wrap (BitVec.ofInt k.bits a ||| BitVec.ofInt k.bits b).toNat
def lxorK (k : IntKind) (a b : Int) : Int := k.wrap (BitVec.ofInt k.bits a ^^^ BitVec.ofInt k.bits b).toNat
def shlK (k : IntKind) (a b : Int) : Int := k.wrap (a * 2 ^ (min b.toNat k.bits))
def shrK (k : IntKind) (a b : Int) : Int := a.fdiv (2 ^ (min b.toNat k.bits))
section
variable {P : Program} {n : Nat} {p : Psi} {own : Own} {sl : Sl} {ty : TypeId}
theorem run_equalIn_nil {w : World} (d : Nat) {t e : TypeId} {A : Option Addr} {l c l2 c2 : Nat} (ht : P.underlying t = some (.slice e)) : (Op.equalIn (d + 1) t (.slice A l c) (.slice none l2 c2)).run P w = .ok A.isNone w := by
  cases A <;> simp [Op.equalIn, run_underlying ht]
end
section
variable {P : Program} {n : Nat} {g : Gh} {own : Own} {sl : Sl} {ty : TypeId} {α : Type} {T : Ty α} {p : Psi}
theorem Arr.srcB {A : Option Addr} {c : Nat} {xs : List α} (h : Arr g.b T A c xs) : ∃ news, Reps T g.b news xs ∧ ∀ w own, St w g own → Src w A xs.length news := by
  obtain ⟨news, h1, h2⟩ := h.src
  exact ⟨news, h1, fun w own hs => h2 w (hs.r.mono g.br)⟩
def u8 (z : Int) : UInt8 := UInt8.ofNat z.toNat
theorem u8_rep {z : Int} (h : 0 ≤ z ∧ z ≤ 255) : tyU8.rep p [.int .u8 z] (u8 z) := by
  show [Value.int .u8 z] = [Value.int .u8 ((u8 z).toNat : Int)]
  have : ((u8 z).toNat : Int) = z := by
    unfold u8
    rw [UInt8.toNat_ofNat']
    omega
  rw [this]
theorem wrapU8_rng (x : Int) : 0 ≤ IntKind.u8.wrap x ∧ IntKind.u8.wrap x ≤ 255 := by
  rw [IntKind.wrap_u8]; omega
end
section
variable {P : Program} {n : Nat} {g : Gh} {own : Own} {sl : Sl} {ty : TypeId} {α : Type} {T : Ty α} {p : Psi}
theorem lent {rest : Own} {k : Bk} (i : Nat) (h : rest[i]? = some (some k)) : some k ∈ rest := List.mem_of_getElem? h
end
end Go.Proofs.YtpleflcfaecojaaGreat
