/-
The data of the seat as plain structures. Conditions: none.
-/
import Derived.Test.YtolppdcaaoghgaaE9
namespace Go.Proofs.Ytolppdcaaoghgaa
set_option linter.unusedVariables false
set_option linter.unusedSimpArgs false
set_option maxRecDepth 100000
open Go.RowKit
structure Piece where
  base : Int
  index : Int
  count : Int
  data : List UInt8
deriving Inhabited, DecidableEq
def tyPiece : Ty Piece := ⟨4, by decide, fun p cs x => ∃ (A_data : Option Addr) (c_data : Nat), cs = [Value.int .i64 (x.base), Value.int .i64 (x.index), Value.int .i64 (x.count), Value.slice A_data (x.data).length c_data] ∧ Arr p tyU8 A_data c_data x.data,
  fun h => by obtain ⟨A_data, c_data, rfl, q0⟩ := h; rfl, fun h => by obtain ⟨A_data, c_data, rfl, q0⟩ := h; rfl, fun k h => by obtain ⟨A_data, c_data, e, q0⟩ := h; exact ⟨A_data, c_data, e, q0.mono k⟩⟩
def okPiece (x : Piece) : Prop := (inK .i64) x.base ∧ (inK .i64) x.index ∧ (inK .i64) x.count ∧ (fun xs => ∀ x ∈ xs, (fun _ => True) x) x.data ∧ True
structure Targets where
  lateral : Int
  vertical : Int
  phase : Int
  bank : Int
  speed : Int
  alt : Int
  vs : Int
deriving Inhabited, DecidableEq
def tyTargets : Ty Targets := ⟨7, by decide, fun p cs x => cs = [Value.int .u8 (x.lateral), Value.int .u8 (x.vertical), Value.int .u8 (x.phase), Value.int .i64 (x.bank), Value.int .i64 (x.speed), Value.int .i64 (x.alt), Value.int .i64 (x.vs)],
  fun h => by subst h; rfl, fun h => by subst h; rfl, fun _ h => h⟩
theorem flatTargets : Flat tyTargets := fun _ _ _ _ h => h
def okTargets (x : Targets) : Prop := (inK .u8) x.lateral ∧ (inK .u8) x.vertical ∧ (inK .u8) x.phase ∧ (inK .i64) x.bank ∧ (inK .i64) x.speed ∧ (inK .i64) x.alt ∧ (inK .i64) x.vs ∧ True
structure Rates where
  bank : Int
  speed : Int
  alt : Int
  vs : Int
deriving Inhabited, DecidableEq
def tyRates : Ty Rates := ⟨4, by decide, fun p cs x => cs = [Value.int .i64 (x.bank), Value.int .i64 (x.speed), Value.int .i64 (x.alt), Value.int .i64 (x.vs)],
  fun h => by subst h; rfl, fun h => by subst h; rfl, fun _ h => h⟩
theorem flatRates : Flat tyRates := fun _ _ _ _ h => h
def okRates (x : Rates) : Prop := (inK .i64) x.bank ∧ (inK .i64) x.speed ∧ (inK .i64) x.alt ∧ (inK .i64) x.vs ∧ True
structure Sender where
  pieces : List Piece
deriving Inhabited, DecidableEq
def tySender : Ty Sender := ⟨1, by decide, fun p cs x => ∃ (A_pieces : Option Addr) (c_pieces : Nat), cs = [Value.slice A_pieces (x.pieces).length c_pieces] ∧ Arr p tyPiece A_pieces c_pieces x.pieces,
  fun h => by obtain ⟨A_pieces, c_pieces, rfl, q0⟩ := h; rfl, fun h => by obtain ⟨A_pieces, c_pieces, rfl, q0⟩ := h; rfl, fun k h => by obtain ⟨A_pieces, c_pieces, e, q0⟩ := h; exact ⟨A_pieces, c_pieces, e, q0.mono k⟩⟩
def okSender (x : Sender) : Prop := (fun xs => ∀ x ∈ xs, okPiece x) x.pieces ∧ True
structure Want where
  base : Int
  have_ : Int
deriving Inhabited, DecidableEq
def tyWant : Ty Want := ⟨2, by decide, fun p cs x => cs = [Value.int .i64 (x.base), Value.int .i64 (x.have_)],
  fun h => by subst h; rfl, fun h => by subst h; rfl, fun _ h => h⟩
theorem flatWant : Flat tyWant := fun _ _ _ _ h => h
def okWant (x : Want) : Prop := (inK .i64) x.base ∧ (inK .i64) x.have_ ∧ True
structure Ask where
  reset : Bool
  want : Want
  steps : Int
  size : Int
deriving Inhabited, DecidableEq
def tyAsk : Ty Ask := ⟨5, by decide, fun p cs x => cs = [Value.bool (x.reset), Value.int .i64 (x.want.base), Value.int .i64 (x.want.have_), Value.int .i64 (x.steps), Value.int .u16 (x.size)],
  fun h => by subst h; rfl, fun h => by subst h; rfl, fun _ h => h⟩
theorem flatAsk : Flat tyAsk := fun _ _ _ _ h => h
def okAsk (x : Ask) : Prop := (fun _ => True) x.reset ∧ okWant x.want ∧ (inK .i64) x.steps ∧ (inK .u16) x.size ∧ True
theorem op55 : Opens Try.prog 55 tyWant okWant := by
  intro H enc w base spare held fuel cs d pl h hw
  obtain ⟨hlen, hf⟩ := struct_fields Try.underlying55 h hw
  rw [show Try.prog.cellsOf 55 = 2 by kernel_rfl] at hlen
  match cs, hlen with
  | [c0, c1], _ =>
    obtain ⟨n0, d0, p0, h0, w0⟩ := hf 0 _ rfl
    simp [show Try.prog.cellsOf 2 = 1 by kernel_rfl] at h0
    obtain ⟨x0, r0, k0⟩ := (opens_int Try.underlying2) h0 w0
    have e0 : [c0] = [Value.int .i64 (x0)] := r0
    obtain ⟨n1, d1, p1, h1, w1⟩ := hf 1 _ rfl
    simp [show Try.prog.cellsOf 3 = 1 by kernel_rfl] at h1
    obtain ⟨x1, r1, k1⟩ := (opens_int Try.underlying3) h1 w1
    have e1 : [c1] = [Value.int .i64 (x1)] := r1
    exact ⟨⟨x0, x1⟩, (show _ = _ from (by rw [show ([c0, c1] : List Value) = [c0] ++ ([c1]) from rfl, e0, e1]; rfl)), k0, k1, trivial⟩
theorem op57 : Opens Try.prog 57 tyAsk okAsk := by
  intro H enc w base spare held fuel cs d pl h hw
  obtain ⟨hlen, hf⟩ := struct_fields Try.underlying57 h hw
  rw [show Try.prog.cellsOf 57 = 5 by kernel_rfl] at hlen
  match cs, hlen with
  | [c0, c1, c2, c3, c4], _ =>
    obtain ⟨n0, d0, p0, h0, w0⟩ := hf 0 _ rfl
    simp [show Try.prog.cellsOf 4 = 1 by kernel_rfl] at h0
    obtain ⟨x0, r0, k0⟩ := (opens_bool Try.underlying4) h0 w0
    have e0 : [c0] = [Value.bool (x0)] := r0
    obtain ⟨n1, d1, p1, h1, w1⟩ := hf 1 _ rfl
    simp [show Try.prog.cellsOf 55 = 2 by kernel_rfl] at h1
    obtain ⟨x1, r1, k1⟩ := op55 h1 w1
    have e1 : [c1, c2] = [Value.int .i64 (x1.base), Value.int .i64 (x1.have_)] := r1
    obtain ⟨n2, d2, p2, h2, w2⟩ := hf 2 _ rfl
    simp [show Try.prog.cellsOf 2 = 1 by kernel_rfl] at h2
    obtain ⟨x2, r2, k2⟩ := (opens_int Try.underlying2) h2 w2
    have e2 : [c3] = [Value.int .i64 (x2)] := r2
    obtain ⟨n3, d3, p3, h3, w3⟩ := hf 3 _ rfl
    simp [show Try.prog.cellsOf 23 = 1 by kernel_rfl] at h3
    obtain ⟨x3, r3, k3⟩ := (opens_int Try.underlying23) h3 w3
    have e3 : [c4] = [Value.int .u16 (x3)] := r3
    exact ⟨⟨x0, x1, x2, x3⟩, (show _ = _ from (by rw [show ([c0, c1, c2, c3, c4] : List Value) = [c0] ++ ([c1, c2] ++ ([c3] ++ ([c4]))) from rfl, e0, e1, e2, e3]; rfl)), k0, k1, k2, k3, trivial⟩
end Go.Proofs.Ytolppdcaaoghgaa
