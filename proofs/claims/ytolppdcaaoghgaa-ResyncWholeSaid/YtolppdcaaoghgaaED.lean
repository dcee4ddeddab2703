/-
The data of the seat as plain structures. Conditions: none.
-/
import Derived.Test.YtolppdcaaoghgaaE11
namespace Go.Proofs.Ytolppdcaaoghgaa
set_option linter.unusedVariables false
set_option linter.unusedSimpArgs false
set_option maxRecDepth 100000
open Go.RowKit
structure Piece where
  base : Int
  index : Int
  count : Int
  data : List UInt8
deriving Inhabited, DecidableEq
def tyPiece : Ty Piece := ⟨4, by decide, fun p cs x => ∃ (A_data : Option Addr) (c_data : Nat), cs = [Value.int .i64 (x.base), Value.int .i64 (x.index), Value.int .i64 (x.count), Value.slice A_data (x.data).length c_data] ∧ Arr p tyU8 A_data c_data x.data,
  fun h => by obtain ⟨A_data, c_data, rfl, q0⟩ := h; rfl, fun h => by obtain ⟨A_data, c_data, rfl, q0⟩ := h; rfl, fun k h => by obtain ⟨A_data, c_data, e, q0⟩ := h; exact ⟨A_data, c_data, e, q0.mono k⟩⟩
def okPiece (x : Piece) : Prop := (inK .i64) x.base ∧ (inK .i64) x.index ∧ (inK .i64) x.count ∧ (fun xs => ∀ x ∈ xs, (fun _ => True) x) x.data ∧ True
structure Targets where
  lateral : Int
  vertical : Int
  phase : Int
  bank : Int
  speed : Int
  alt : Int
  vs : Int
deriving Inhabited, DecidableEq
def tyTargets : Ty Targets := ⟨7, by decide, fun p cs x => cs = [Value.int .u8 (x.lateral), Value.int .u8 (x.vertical), Value.int .u8 (x.phase), Value.int .i64 (x.bank), Value.int .i64 (x.speed), Value.int .i64 (x.alt), Value.int .i64 (x.vs)],
  fun h => by subst h; rfl, fun h => by subst h; rfl, fun _ h => h⟩
theorem flatTargets : Flat tyTargets := fun _ _ _ _ h => h
def okTargets (x : Targets) : Prop := (inK .u8) x.lateral ∧ (inK .u8) x.vertical ∧ (inK .u8) x.phase ∧ (inK .i64) x.bank ∧ (inK .i64) x.speed ∧ (inK .i64) x.alt ∧ (inK .i64) x.vs ∧ True
structure Rates where
  bank : Int
  speed : Int
  alt : Int
  vs : Int
deriving Inhabited, DecidableEq
def tyRates : Ty Rates := ⟨4, by decide, fun p cs x => cs = [Value.int .i64 (x.bank), Value.int .i64 (x.speed), Value.int .i64 (x.alt), Value.int .i64 (x.vs)],
  fun h => by subst h; rfl, fun h => by subst h; rfl, fun _ h => h⟩
theorem flatRates : Flat tyRates := fun _ _ _ _ h => h
def okRates (x : Rates) : Prop := (inK .i64) x.bank ∧ (inK .i64) x.speed ∧ (inK .i64) x.alt ∧ (inK .i64) x.vs ∧ True
structure Sender where
  pieces : List Piece
deriving Inhabited, DecidableEq
def tySender : Ty Sender := ⟨1, by decide, fun p cs x => ∃ (A_pieces : Option Addr) (c_pieces : Nat), cs = [Value.slice A_pieces (x.pieces).length c_pieces] ∧ Arr p tyPiece A_pieces c_pieces x.pieces,
  fun h => by obtain ⟨A_pieces, c_pieces, rfl, q0⟩ := h; rfl, fun h => by obtain ⟨A_pieces, c_pieces, rfl, q0⟩ := h; rfl, fun k h => by obtain ⟨A_pieces, c_pieces, e, q0⟩ := h; exact ⟨A_pieces, c_pieces, e, q0.mono k⟩⟩
def okSender (x : Sender) : Prop := (fun xs => ∀ x ∈ xs, okPiece x) x.pieces ∧ True
structure Want where
  base : Int
  have_ : Int
deriving Inhabited, DecidableEq
def tyWant : Ty Want := ⟨2, by decide, fun p cs x => cs = [Value.int .i64 (x.base), Value.int .i64 (x.have_)],
  fun h => by subst h; rfl, fun h => by subst h; rfl, fun _ h => h⟩
theorem flatWant : Flat tyWant := fun _ _ _ _ h => h
def okWant (x : Want) : Prop := (inK .i64) x.base ∧ (inK .i64) x.have_ ∧ True
structure Ask where
  reset : Bool
  want : Want
  steps : Int
  size : Int
deriving Inhabited, DecidableEq
def tyAsk : Ty Ask := ⟨5, by decide, fun p cs x => cs = [Value.bool (x.reset), Value.int .i64 (x.want.base), Value.int .i64 (x.want.have_), Value.int .i64 (x.steps), Value.int .u16 (x.size)],
  fun h => by subst h; rfl, fun h => by subst h; rfl, fun _ h => h⟩
theorem flatAsk : Flat tyAsk := fun _ _ _ _ h => h
def okAsk (x : Ask) : Prop := (fun _ => True) x.reset ∧ okWant x.want ∧ (inK .i64) x.steps ∧ (inK .u16) x.size ∧ True
structure Sett where
  steps : Int
  cycle : Int
  fresh : Bool
  in_ : List UInt8
deriving Inhabited, DecidableEq
def tySett : Ty Sett := ⟨4, by decide, fun p cs x => ∃ (A_in_ : Option Addr) (c_in_ : Nat), cs = [Value.int .i64 (x.steps), Value.int .i64 (x.cycle), Value.bool (x.fresh), Value.slice A_in_ (x.in_).length c_in_] ∧ Arr p tyU8 A_in_ c_in_ x.in_,
  fun h => by obtain ⟨A_in_, c_in_, rfl, q0⟩ := h; rfl, fun h => by obtain ⟨A_in_, c_in_, rfl, q0⟩ := h; rfl, fun k h => by obtain ⟨A_in_, c_in_, e, q0⟩ := h; exact ⟨A_in_, c_in_, e, q0.mono k⟩⟩
def okSett (x : Sett) : Prop := (inK .i64) x.steps ∧ (inK .i64) x.cycle ∧ (fun _ => True) x.fresh ∧ (fun xs => ∀ x ∈ xs, (fun _ => True) x) x.in_ ∧ True
structure Coll where
  base : Int
  count : Int
  parts : List (List UInt8)
  sets : List Sett
deriving Inhabited, DecidableEq
def tyColl : Ty Coll := ⟨4, by decide, fun p cs x => ∃ (A_parts : Option Addr) (c_parts : Nat) (A_sets : Option Addr) (c_sets : Nat), cs = [Value.int .i64 (x.base), Value.int .i64 (x.count), Value.slice A_parts (x.parts).length c_parts, Value.slice A_sets (x.sets).length c_sets] ∧ Arr p (tyArr tyU8) A_parts c_parts x.parts ∧ Arr p tySett A_sets c_sets x.sets,
  fun h => by obtain ⟨A_parts, c_parts, A_sets, c_sets, rfl, q0, q1⟩ := h; rfl, fun h => by obtain ⟨A_parts, c_parts, A_sets, c_sets, rfl, q0, q1⟩ := h; rfl, fun k h => by obtain ⟨A_parts, c_parts, A_sets, c_sets, e, q0, q1⟩ := h; exact ⟨A_parts, c_parts, A_sets, c_sets, e, q0.mono k, q1.mono k⟩⟩
def okColl (x : Coll) : Prop := (inK .i64) x.base ∧ (inK .i64) x.count ∧ (fun xs => ∀ x ∈ xs, (fun xs => ∀ x ∈ xs, (fun _ => True) x) x) x.parts ∧ (fun xs => ∀ x ∈ xs, okSett x) x.sets ∧ True
structure Gift where
  kind : Int
  piece : Piece
  set_ : Sett
deriving Inhabited, DecidableEq
def tyGift : Ty Gift := ⟨9, by decide, fun p cs x => ∃ (A_piece_data : Option Addr) (c_piece_data : Nat) (A_set__in_ : Option Addr) (c_set__in_ : Nat), cs = [Value.int .u8 (x.kind), Value.int .i64 (x.piece.base), Value.int .i64 (x.piece.index), Value.int .i64 (x.piece.count), Value.slice A_piece_data (x.piece.data).length c_piece_data, Value.int .i64 (x.set_.steps), Value.int .i64 (x.set_.cycle), Value.bool (x.set_.fresh), Value.slice A_set__in_ (x.set_.in_).length c_set__in_] ∧ Arr p tyU8 A_piece_data c_piece_data x.piece.data ∧ Arr p tyU8 A_set__in_ c_set__in_ x.set_.in_,
  fun h => by obtain ⟨A_piece_data, c_piece_data, A_set__in_, c_set__in_, rfl, q0, q1⟩ := h; rfl, fun h => by obtain ⟨A_piece_data, c_piece_data, A_set__in_, c_set__in_, rfl, q0, q1⟩ := h; rfl, fun k h => by obtain ⟨A_piece_data, c_piece_data, A_set__in_, c_set__in_, e, q0, q1⟩ := h; exact ⟨A_piece_data, c_piece_data, A_set__in_, c_set__in_, e, q0.mono k, q1.mono k⟩⟩
def okGift (x : Gift) : Prop := (inK .u8) x.kind ∧ okPiece x.piece ∧ okSett x.set_ ∧ True
structure Job where
  base : Int
  snapshot : List UInt8
  sets : List Sett
deriving Inhabited, DecidableEq
def tyJob : Ty Job := ⟨3, by decide, fun p cs x => ∃ (A_snapshot : Option Addr) (c_snapshot : Nat) (A_sets : Option Addr) (c_sets : Nat), cs = [Value.int .i64 (x.base), Value.slice A_snapshot (x.snapshot).length c_snapshot, Value.slice A_sets (x.sets).length c_sets] ∧ Arr p tyU8 A_snapshot c_snapshot x.snapshot ∧ Arr p tySett A_sets c_sets x.sets,
  fun h => by obtain ⟨A_snapshot, c_snapshot, A_sets, c_sets, rfl, q0, q1⟩ := h; rfl, fun h => by obtain ⟨A_snapshot, c_snapshot, A_sets, c_sets, rfl, q0, q1⟩ := h; rfl, fun k h => by obtain ⟨A_snapshot, c_snapshot, A_sets, c_sets, e, q0, q1⟩ := h; exact ⟨A_snapshot, c_snapshot, A_sets, c_sets, e, q0.mono k, q1.mono k⟩⟩
def okJob (x : Job) : Prop := (inK .i64) x.base ∧ (fun xs => ∀ x ∈ xs, (fun _ => True) x) x.snapshot ∧ (fun xs => ∀ x ∈ xs, okSett x) x.sets ∧ True
theorem op55 : Opens Try.prog 55 tyWant okWant := by
  intro H enc w base spare held fuel cs d pl h hw
  obtain ⟨hlen, hf⟩ := struct_fields Try.underlying55 h hw
  rw [show Try.prog.cellsOf 55 = 2 by kernel_rfl] at hlen
  match cs, hlen with
  | [c0, c1], _ =>
    obtain ⟨n0, d0, p0, h0, w0⟩ := hf 0 _ rfl
    simp [show Try.prog.cellsOf 2 = 1 by kernel_rfl] at h0
    obtain ⟨x0, r0, k0⟩ := (opens_int Try.underlying2) h0 w0
    have e0 : [c0] = [Value.int .i64 (x0)] := r0
    obtain ⟨n1, d1, p1, h1, w1⟩ := hf 1 _ rfl
    simp [show Try.prog.cellsOf 3 = 1 by kernel_rfl] at h1
    obtain ⟨x1, r1, k1⟩ := (opens_int Try.underlying3) h1 w1
    have e1 : [c1] = [Value.int .i64 (x1)] := r1
    exact ⟨⟨x0, x1⟩, (show _ = _ from (by rw [show ([c0, c1] : List Value) = [c0] ++ ([c1]) from rfl, e0, e1]; rfl)), k0, k1, trivial⟩
theorem op57 : Opens Try.prog 57 tyAsk okAsk := by
  intro H enc w base spare held fuel cs d pl h hw
  obtain ⟨hlen, hf⟩ := struct_fields Try.underlying57 h hw
  rw [show Try.prog.cellsOf 57 = 5 by kernel_rfl] at hlen
  match cs, hlen with
  | [c0, c1, c2, c3, c4], _ =>
    obtain ⟨n0, d0, p0, h0, w0⟩ := hf 0 _ rfl
    simp [show Try.prog.cellsOf 4 = 1 by kernel_rfl] at h0
    obtain ⟨x0, r0, k0⟩ := (opens_bool Try.underlying4) h0 w0
    have e0 : [c0] = [Value.bool (x0)] := r0
    obtain ⟨n1, d1, p1, h1, w1⟩ := hf 1 _ rfl
    simp [show Try.prog.cellsOf 55 = 2 by kernel_rfl] at h1
    obtain ⟨x1, r1, k1⟩ := op55 h1 w1
    have e1 : [c1, c2] = [Value.int .i64 (x1.base), Value.int .i64 (x1.have_)] := r1
    obtain ⟨n2, d2, p2, h2, w2⟩ := hf 2 _ rfl
    simp [show Try.prog.cellsOf 2 = 1 by kernel_rfl] at h2
    obtain ⟨x2, r2, k2⟩ := (opens_int Try.underlying2) h2 w2
    have e2 : [c3] = [Value.int .i64 (x2)] := r2
    obtain ⟨n3, d3, p3, h3, w3⟩ := hf 3 _ rfl
    simp [show Try.prog.cellsOf 23 = 1 by kernel_rfl] at h3
    obtain ⟨x3, r3, k3⟩ := (opens_int Try.underlying23) h3 w3
    have e3 : [c4] = [Value.int .u16 (x3)] := r3
    exact ⟨⟨x0, x1, x2, x3⟩, (show _ = _ from (by rw [show ([c0, c1, c2, c3, c4] : List Value) = [c0] ++ ([c1, c2] ++ ([c3] ++ ([c4]))) from rfl, e0, e1, e2, e3]; rfl)), k0, k1, k2, k3, trivial⟩
theorem op37 : Opens Try.prog 37 tyPiece okPiece := by
  intro H enc w base spare held fuel cs d pl h hw
  obtain ⟨hlen, hf⟩ := struct_fields Try.underlying37 h hw
  rw [show Try.prog.cellsOf 37 = 4 by kernel_rfl] at hlen
  match cs, hlen with
  | [c0, c1, c2, c3], _ =>
    obtain ⟨n0, d0, p0, h0, w0⟩ := hf 0 _ rfl
    simp [show Try.prog.cellsOf 2 = 1 by kernel_rfl] at h0
    obtain ⟨x0, r0, k0⟩ := (opens_int Try.underlying2) h0 w0
    have e0 : [c0] = [Value.int .i64 (x0)] := r0
    obtain ⟨n1, d1, p1, h1, w1⟩ := hf 1 _ rfl
    simp [show Try.prog.cellsOf 3 = 1 by kernel_rfl] at h1
    obtain ⟨x1, r1, k1⟩ := (opens_int Try.underlying3) h1 w1
    have e1 : [c1] = [Value.int .i64 (x1)] := r1
    obtain ⟨n2, d2, p2, h2, w2⟩ := hf 2 _ rfl
    simp [show Try.prog.cellsOf 3 = 1 by kernel_rfl] at h2
    obtain ⟨x2, r2, k2⟩ := (opens_int Try.underlying3) h2 w2
    have e2 : [c2] = [Value.int .i64 (x2)] := r2
    obtain ⟨n3, d3, p3, h3, w3⟩ := hf 3 _ rfl
    simp [show Try.prog.cellsOf 22 = 1 by kernel_rfl] at h3
    obtain ⟨x3, r3, k3⟩ := (opens_slice (opens_u8 Try.underlying5) Try.underlying22 (by kernel_rfl) (by kernel_rfl)) h3 w3
    obtain ⟨A_3, c_3, e3, f_3⟩ := r3
    exact ⟨⟨x0, x1, x2, x3⟩, ⟨A_3, c_3, (by rw [show ([c0, c1, c2, c3] : List Value) = [c0] ++ ([c1] ++ ([c2] ++ ([c3]))) from rfl, e0, e1, e2, e3]; rfl), f_3⟩, k0, k1, k2, k3, trivial⟩
theorem op79 : Opens Try.prog 79 tySett okSett := by
  intro H enc w base spare held fuel cs d pl h hw
  obtain ⟨hlen, hf⟩ := struct_fields Try.underlying79 h hw
  rw [show Try.prog.cellsOf 79 = 4 by kernel_rfl] at hlen
  match cs, hlen with
  | [c0, c1, c2, c3], _ =>
    obtain ⟨n0, d0, p0, h0, w0⟩ := hf 0 _ rfl
    simp [show Try.prog.cellsOf 2 = 1 by kernel_rfl] at h0
    obtain ⟨x0, r0, k0⟩ := (opens_int Try.underlying2) h0 w0
    have e0 : [c0] = [Value.int .i64 (x0)] := r0
    obtain ⟨n1, d1, p1, h1, w1⟩ := hf 1 _ rfl
    simp [show Try.prog.cellsOf 2 = 1 by kernel_rfl] at h1
    obtain ⟨x1, r1, k1⟩ := (opens_int Try.underlying2) h1 w1
    have e1 : [c1] = [Value.int .i64 (x1)] := r1
    obtain ⟨n2, d2, p2, h2, w2⟩ := hf 2 _ rfl
    simp [show Try.prog.cellsOf 4 = 1 by kernel_rfl] at h2
    obtain ⟨x2, r2, k2⟩ := (opens_bool Try.underlying4) h2 w2
    have e2 : [c2] = [Value.bool (x2)] := r2
    obtain ⟨n3, d3, p3, h3, w3⟩ := hf 3 _ rfl
    simp [show Try.prog.cellsOf 22 = 1 by kernel_rfl] at h3
    obtain ⟨x3, r3, k3⟩ := (opens_slice (opens_u8 Try.underlying5) Try.underlying22 (by kernel_rfl) (by kernel_rfl)) h3 w3
    obtain ⟨A_3, c_3, e3, f_3⟩ := r3
    exact ⟨⟨x0, x1, x2, x3⟩, ⟨A_3, c_3, (by rw [show ([c0, c1, c2, c3] : List Value) = [c0] ++ ([c1] ++ ([c2] ++ ([c3]))) from rfl, e0, e1, e2, e3]; rfl), f_3⟩, k0, k1, k2, k3, trivial⟩
theorem op81 : Opens Try.prog 81 tyGift okGift := by
  intro H enc w base spare held fuel cs d pl h hw
  obtain ⟨hlen, hf⟩ := struct_fields Try.underlying81 h hw
  rw [show Try.prog.cellsOf 81 = 9 by kernel_rfl] at hlen
  match cs, hlen with
  | [c0, c1, c2, c3, c4, c5, c6, c7, c8], _ =>
    obtain ⟨n0, d0, p0, h0, w0⟩ := hf 0 _ rfl
    simp [show Try.prog.cellsOf 5 = 1 by kernel_rfl] at h0
    obtain ⟨x0, r0, k0⟩ := (opens_int Try.underlying5) h0 w0
    have e0 : [c0] = [Value.int .u8 (x0)] := r0
    obtain ⟨n1, d1, p1, h1, w1⟩ := hf 1 _ rfl
    simp [show Try.prog.cellsOf 37 = 4 by kernel_rfl] at h1
    obtain ⟨x1, r1, k1⟩ := op37 h1 w1
    obtain ⟨A_1_data, c_1_data, e1, f_1_data⟩ := r1
    obtain ⟨n2, d2, p2, h2, w2⟩ := hf 2 _ rfl
    simp [show Try.prog.cellsOf 79 = 4 by kernel_rfl] at h2
    obtain ⟨x2, r2, k2⟩ := op79 h2 w2
    obtain ⟨A_2_in_, c_2_in_, e2, f_2_in_⟩ := r2
    exact ⟨⟨x0, x1, x2⟩, ⟨A_1_data, c_1_data, A_2_in_, c_2_in_, (by rw [show ([c0, c1, c2, c3, c4, c5, c6, c7, c8] : List Value) = [c0] ++ ([c1, c2, c3, c4] ++ ([c5, c6, c7, c8])) from rfl, e0, e1, e2]; rfl), f_1_data, f_2_in_⟩, k0, k1, k2, trivial⟩
end Go.Proofs.Ytolppdcaaoghgaa
