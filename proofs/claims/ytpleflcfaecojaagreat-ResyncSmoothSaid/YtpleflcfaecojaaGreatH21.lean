/-
The third engine, part 21: all operations; tables of functions. Conditions: each lemma's own.
-/
import Derived.Test.YtpleflcfaecojaaGreatH20w
namespace Go.Proofs.YtpleflcfaecojaaGreat
set_option linter.unusedVariables false
set_option linter.unusedSimpArgs false
open Go.RowKit
def mxNew (S : FS) : List Sch → Nat
  | [] => 0
  | s :: l => Nat.max (s.bl.length - S.ps.bl.length) (mxNew S l)
def mxL : List FS → Nat
  | [] => 0
  | S :: l => Nat.max (mxNew S S.rs) (mxL l)
def stepM (P : Program) (tbl : FuncId → List FS) (sl : List (Nat × SV)) : Op → Nat
  | .alloc _ => 1
  | .box _ _ => 1
  | .buildSlice _ _ _ => 1
  | .makeSlice _ _ _ => 1
  | .call c => match c.callee with
    | .builtin .append => 1
    | .value x => (match evH sl x with
      | some (.v (.c fv)) => (match fnOf fv with | some (f, _) => mxL (tbl f) | none => 0)
      | _ => 0)
    | .invoke x name => (match evH sl x with
      | some (.v (.c (.ifc t _))) => (match mthOf P t name with | some f => mxL (tbl f) | none => 0)
      | _ => 0)
    | _ => 0
  | _ => 0
def isView (sl : List (Nat × SV)) (s : Operand) : Bool := match evH sl s with
  | some (.v (.c (.vw _ _ l _))) => Nat.ble 1 l
  | _ => false
def stepC (P : Program) (tbl : FuncId → List FS) (sl : List (Nat × SV)) (f m : Nat) (cl : Callee) (args : List Operand) (ats : List TypeId) : Tr := match cl with
  | .value x => tCall P tbl sl f m x args
  | .invoke x name => tInv P tbl sl f m x name args
  | .builtin b => (match b, args, ats with
    | .append, [s, x], [t, t'] => (match P.underlying t' with | some (.int _) => tAppZ P sl f t t' s x | _ => (match isView sl s with | true => tAppV P sl t t' s x | false => tApp P sl f t t' s x))
    | .len, [x], [t] => tLen P sl t x
    | .cap, [x], [t] => tCap P sl t x
    | .clear, [x], [t] => tClear P sl t x
    | .copy, [x, y], [t, _] => tCopy P sl t x y
    | b, [x, y], _ => tMM b sl x y
    | _, _, _ => .no)
def stepH (P : Program) (tbl : FuncId → List FS) (sl : List (Nat × SV)) (f : Nat) (op : Op) (ty : TypeId) : Tr := match op with
  | .move x => tMove sl x
  | .assign x => tMove sl x
  | .pick c x y => tPick sl c x y
  | .alloc t => tAlloc P f t
  | .box t x => tBox sl f t x
  | .build t parts => tBuild P sl t parts.toList
  | .buildSlice t len parts => tLit P sl f t len parts.toList
  | .load t x => tLoad P sl t x
  | .store t x y => tStore P sl t x y
  | .nilCheck x => tNil sl x
  | .binOp op t x y _ => tBin P sl op t x y
  | .unOp op _ x => tUn sl op x
  | .convert s d x => tText P sl s d x
  | .makeFunc fn first captured => tFn sl fn first.toList captured.toList
  | .makeInterface t x => tIfc P sl t x
  | .makeSlice t x y => tMake P sl f t x y
  | .slice t x lo hi none => tSlice P sl t x lo hi
  | .fieldAddr t x i => tFieldA P sl t x i
  | .field t x i => tField P sl t x i
  | .indexAddr t x i => tIndexA P sl t x i
  | .index t x i => tIndex P sl t x i
  | .extract x i => tExtract sl x i
  | .call c => stepC P tbl sl f (stepM P tbl sl op) c.callee c.args.toList c.argTypes.toList
  | _ => .no
section
variable {P : Program} {n : Nat} {ty : TypeId} {sl : List (Nat × SV)} {bl bl' : List BV} {v : SV} {f : Nat}
theorem stepC_ok {tbl : FuncId → List FS} (hT : ∀ f S, S ∈ tbl f → FOk P f S) {c : Call} (hf : ∀ i, i < stepM P tbl sl (.call c) → bl[f + i]? = some .hole) (h : Told f (stepC P tbl sl f (stepM P tbl sl (.call c)) c.callee c.args.toList c.argTypes.toList) bl bl' v) : EffH P n (.call c) ty sl bl bl' v := by
  obtain ⟨cl, args, ats⟩ := c
  cases cl with
  | value x =>
    have := tCall_ok (n := n) (ty := ty) (ats := ats) hT hf h
    simpa using this
  | invoke x name =>
    have := tInv_ok (n := n) (ty := ty) (ats := ats) hT hf h
    simpa using this
  | builtin b =>
    simp only [stepC] at h
    split at h
    · rename_i s x t t' ha ht
      have ha : args = #[s, x] := by rw [← Array.toArray_toList (xs := args), ha]
      have ht : ats = #[t, t'] := by rw [← Array.toArray_toList (xs := ats), ht]
      subst ha; subst ht
      split at h
      · exact tAppZ_ok (by have := hf 0 (by simp [stepM]); simpa using this) h
      · split at h
        · exact tAppV_ok h
        · exact tApp_ok (by have := hf 0 (by simp [stepM]); simpa using this) h
    · rename_i x t ha ht
      have ha : args = #[x] := by rw [← Array.toArray_toList (xs := args), ha]
      have ht : ats = #[t] := by rw [← Array.toArray_toList (xs := ats), ht]
      subst ha; subst ht
      exact tLen_ok h
    · rename_i x t ha ht
      have ha : args = #[x] := by rw [← Array.toArray_toList (xs := args), ha]
      have ht : ats = #[t] := by rw [← Array.toArray_toList (xs := ats), ht]
      subst ha; subst ht
      exact tCap_ok h
    · rename_i x t ha ht
      have ha : args = #[x] := by rw [← Array.toArray_toList (xs := args), ha]
      have ht : ats = #[t] := by rw [← Array.toArray_toList (xs := ats), ht]
      subst ha; subst ht
      exact tClear_ok h
    · rename_i x y t t' ha ht
      have ha : args = #[x, y] := by rw [← Array.toArray_toList (xs := args), ha]
      have ht : ats = #[t, t'] := by rw [← Array.toArray_toList (xs := ats), ht]
      subst ha; subst ht
      exact tCopy_ok h
    · rename_i x y ha _ _
      have ha : args = #[x, y] := by rw [← Array.toArray_toList (xs := args), ha]
      subst ha
      exact tMM_ok h
    · exact h.elim
theorem stepH_ok {tbl : FuncId → List FS} (hT : ∀ f S, S ∈ tbl f → FOk P f S) {op : Op} (hf : ∀ i, i < stepM P tbl sl op → bl[f + i]? = some .hole) (h : Told f (stepH P tbl sl f op ty) bl bl' v) : EffH P n op ty sl bl bl' v := by
  have h1 : 0 < stepM P tbl sl op → bl[f]? = some .hole := fun h0 => by simpa using hf 0 h0
  cases op with
  | move x => exact (tMove_ok h).1
  | assign x => exact (tMove_ok h).2
  | pick c x y => exact tPick_ok h
  | alloc t => exact tAlloc_ok (h1 (by simp [stepM])) h
  | box t x => exact tBox_ok (h1 (by simp [stepM])) h
  | build t parts => simpa using tBuild_ok (n := n) (ty := ty) h
  | buildSlice t len parts => simpa using tLit_ok (n := n) (ty := ty) (h1 (by simp [stepM])) h
  | load t x => exact tLoad_ok h
  | store t x y => exact tStore_ok h
  | nilCheck x => exact tNil_ok h
  | binOp op t x y u => exact tBin_ok h
  | unOp op t x => exact tUn_ok h
  | convert s d x => exact tText_ok h
  | makeFunc fn first captured => simpa using tFn_ok (n := n) (ty := ty) h
  | makeInterface t x => exact tIfc_ok h
  | makeSlice t x y => exact tMake_ok (h1 (by simp [stepM])) h
  | slice t x lo hi mx => cases mx with
    | none => exact tSlice_ok h
    | some _ => exact h.elim
  | fieldAddr t x i => exact tFieldA_ok h
  | field t x i => exact tField_ok h
  | indexAddr t x i => exact tIndexA_ok h
  | index t x i => exact tIndex_ok h
  | extract x i => exact tExtract_ok h
  | call c => exact stepC_ok hT hf h
  | _ => exact h.elim
end
abbrev Tbl := List (FuncId × FS)
def lkT : Tbl → FuncId → List FS
  | [], _ => []
  | (f, S) :: l, g => cond (Nat.beq f g) (S :: lkT l g) (lkT l g)
structure TOk (P : Program) (T : Tbl) : Prop where
  ok : ∀ f S, S ∈ lkT T f → FOk P f S
theorem TOk.nil {P : Program} : TOk P [] := ⟨fun f S h => by cases h⟩
theorem TOk.cons {P : Program} {T : Tbl} {f : FuncId} {S : FS} (h : TOk P T) (k : FOk P f S) : TOk P ((f, S) :: T) := ⟨fun g S' hm => by
  unfold lkT at hm
  cases hb : Nat.beq f g with
  | true =>
    rw [hb] at hm
    have := Nat.eq_of_beq_eq_true hb
    subst this
    rcases List.mem_cons.1 hm with rfl | hm
    · exact k
    · exact h.ok _ _ hm
  | false => rw [hb] at hm; exact h.ok _ _ hm⟩
def stpT (P : Program) (T : Tbl) (h : TOk P T) : Stp P := ⟨stepH P (lkT T), stepM P (lkT T), fun hf hT => stepH_ok h.ok hf hT⟩
theorem FOk.run_eq {P : Program} {f : FuncId} {ps : Sch} {rs : List Sch} {r1 r2 : HT ps.tr → Option (ALT rs)} (h : FOk P f ⟨ps, rs, r1⟩) (e : ∀ t, r1 t = r2 t) : FOk P f ⟨ps, rs, r2⟩ := by
  have : r1 = r2 := funext e
  rwa [← this]
end Go.Proofs.YtpleflcfaecojaaGreat
