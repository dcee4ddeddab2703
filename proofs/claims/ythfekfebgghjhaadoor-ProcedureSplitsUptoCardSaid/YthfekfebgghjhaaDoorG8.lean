/-
The second engine, part 8: arrays as rows, told by their elements; more operations on numbers. Conditions: each lemma's own.
-/
import Derived.Test.YthfekfebgghjhaaDoorG7
namespace Go.Proofs.YthfekfebgghjhaaDoor
set_option linter.unusedVariables false
set_option linter.unusedSimpArgs false
open Go.RowKit
theorem i64_in_ (x : Int) : -9223372036854775808 ≤ IntKind.i64.wrap x ∧ IntKind.i64.wrap x ≤ 9223372036854775807 := by rw [IntKind.wrap_i64]; omega
theorem i32_in_ (x : Int) : -2147483648 ≤ IntKind.i32.wrap x ∧ IntKind.i32.wrap x ≤ 2147483647 := lit_wf (wf_wrap .i32 x)
theorem u8_in_ (x : Int) : 0 ≤ IntKind.u8.wrap x ∧ IntKind.u8.wrap x ≤ 255 := lit_wf (wf_wrap .u8 x)
theorem u16_in_ (x : Int) : 0 ≤ IntKind.u16.wrap x ∧ IntKind.u16.wrap x ≤ 65535 := lit_wf (wf_wrap .u16 x)
theorem u32_in_ (x : Int) : 0 ≤ IntKind.u32.wrap x ∧ IntKind.u32.wrap x ≤ 4294967295 := lit_wf (wf_wrap .u32 x)
theorem u64_in_ (x : Int) : 0 ≤ IntKind.u64.wrap x ∧ IntKind.u64.wrap x ≤ 18446744073709551615 := lit_wf (wf_wrap .u64 x)
def landnK (k : IntKind) (a b : Int) : Int := k.wrap (BitVec.ofInt k.bits a &&& ~~~ BitVec.ofInt k.bits b).toNat
section
variable {P : Program} {n : Nat} {g : Gh} {own : Own} {sl : Sl} {ty : TypeId} {op : Op} {p : Psi} {α : Type} {T : Ty α}
/-- an element of an array that is a block of one's own -/
theorem qIxRA (idx m b : Nat) {A : Addr} {len : Nat} {z : Int} (hA : some A = some (⟨b, 0, none⟩ : Addr)) (hz : z = (idx : Int)) (hlt : idx < len) (hc : ixaC P sl op = some (some A, len, z, m) := by kernel_rfl) : Yld P n p own sl op ty (.pointer (some ⟨b, idx * m + 0, none⟩)) := by
  injection hA with e
  subst e
  have := qIxA (P := P) (n := n) (p := p) (own := own) (ty := ty) idx m ⟨b, 0, none⟩ hz hlt hc
  rwa [addr_add, Nat.zero_add] at this
/-- of an array that is only read -/
theorem qIxP (idx m : Nat) {A ad : Addr} {len : Nat} {z : Int} (hA : some A = some ad) (hz : z = (idx : Int)) (hlt : idx < len) (hc : ixaC P sl op = some (some A, len, z, m) := by kernel_rfl) : Yld P n p own sl op ty (.pointer (some (ad.add (idx * m)))) := by
  injection hA with e
  subst e
  exact qIxA (P := P) (n := n) (p := p) (own := own) (ty := ty) idx m A hz hlt hc
theorem buf_zeros {et : TypeId} {b N : Nat} {zs : List Value} {z : α} (h : T.rep p zs z) (hN : N ≤ 1000000) : Buf p T et (.slice (some ⟨b, 0, none⟩) N N) (some ⟨b, et, (List.replicate N zs).flatten⟩) (List.replicate N z) := by
  have hr := reps_zeros h N
  refine ⟨by rw [List.length_replicate]; omega, .inr ⟨b, N, (List.replicate N zs).flatten, [], by rw [List.length_replicate], by rw [List.append_nil], hr, ?_, ?_⟩⟩
  · rw [List.append_nil, hr.len, List.length_replicate]
  · have : (1000000 : Nat) ≤ maxLen := by decide
    omega
end
def len8L : List UInt8 := (List.range 256).map fun n => UInt8.ofNat (cond (n == 0) 0 (Nat.log2 n + 1))
section
variable {P : Program} {n : Nat} {own : Own} {sl : Sl} {ty : TypeId} {op : Op} {p : Psi}
/-- a byte of a string -/
def ixsC (P : Program) (sl : Sl) (op : Op) : Option (ByteArray × Int) := match op with
  | .index t x i => match evS sl x, evS sl i, P.underlying t with
    | some (.string s), some (.int _ z), some .string => some (s, z)
    | _, _, _ => none
  | _ => none
theorem qIxS (idx : Nat) {xs : List UInt8} {z : Int} (hz : z = (idx : Int)) (hlt : idx < xs.length) (hc : ixsC P sl op = some (mkS xs, z) := by kernel_rfl) : Yld P n p own sl op ty (.int .u8 ((List.getD xs idx 0).toNat : Int)) := by
  subst hz
  unfold ixsC at hc
  split at hc
  · rename_i t x i
    split at hc
    · rename_i s k z' e1 e2 e3
      simp only [Option.some.injEq, Prod.mk.injEq] at hc
      obtain ⟨rfl, rfl⟩ := hc
      intro o a w h1 h2 hf hr
      have hs : (mkS xs).size = xs.length := mkS_size xs
      have hrun := run_index_string (P := P) w t (mkS xs) k (idx : Int) e3
      rw [dif_pos ⟨by omega, by rw [hs]; omega⟩] at hrun
      have hv : ((mkS xs)[(idx : Int).toNat]'(by rw [hs]; omega)).toNat = (List.getD xs idx 0).toNat := by
        rw [List.getD_eq_getElem?_getD, List.getElem?_eq_getElem hlt]
        rfl
      rw [hv] at hrun
      simp [execOp, h1, hf.ev e1, hf.ev e2, hrun]
    · cases hc
  · cases hc
end
end Go.Proofs.YthfekfebgghjhaaDoor
