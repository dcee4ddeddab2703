/-
The engine, part 6: a region that draws its order. What only reads is taken first, as long as the world holds what is read (after Derived/OrdersHeld.lean, with the condition asked only behind operations that may come ahead of what is taken first). Conditions: each lemma's own.
-/
import Derived.Test.YtpleflcfaecojaaGreatE5
import Derived.OrdersHeld
namespace Go.Proofs.YtpleflcfaecojaaGreat
set_option linter.unusedVariables false
set_option linter.unusedSimpArgs false
open Go.RowKit
def finOk (ops : Array Oper) (lds fin : List Nat) : Bool := fin.all fun k => match ops[k]? with
  | some o => lds.all fun i => o.after.any fun e => Region.binds .any e && e.on == i
  | none => true
section
variable {P : Program} {ops : Array Oper} {Q : Exit → Act → World → Prop} {S : World → Prop} {lds fin : List Nat}
end
section
variable {P : Program} {ops : Array Oper} {Q : Exit → Act → World → Prop} {n : Nat} {lds fin : List Nat} {p : Psi} {K : Own}
structure RegOk (P : Program) (ops : Array Oper) (Q : Exit → Act → World → Prop) (lds fin : List Nat) : Prop where
  fin : finOk ops lds fin = true
  sel : Region.noSelect ops = true
  panic : ∀ c (a : Act) (d : Tmp) (v : Value) w, Q (.panic c) (a.put (some d) v) w → Q (.panic c) a w
end
end Go.Proofs.YtpleflcfaecojaaGreat
