/-
The data of the seat as plain structures. Conditions: none.
-/
import Derived.Test.YtnidomdebhekiaaGreatG10
namespace Go.Proofs.YtnidomdebhekiaaGreat
set_option linter.unusedVariables false
set_option linter.unusedSimpArgs false
set_option maxRecDepth 100000
open Go.RowKit
structure Want where
  base : Int
  have_ : Int
deriving Inhabited, DecidableEq
structure Heard where
  role : Int
  steps : Int
  want : Want
  input : List UInt8
deriving Inhabited, DecidableEq
structure Targets where
  lateral : Int
  vertical : Int
  phase : Int
  bank : Int
  speed : Int
  alt : Int
  vs : Int
deriving Inhabited, DecidableEq
def tyTargets : Ty Targets := ⟨7, by decide, fun p cs x => cs = [vy x.lateral, vy x.vertical, vy x.phase, vi x.bank, vi x.speed, vi x.alt, vi x.vs],
  fun h => by subst h; rfl, fun h => by subst h; rfl, fun _ h => h⟩
def okTargets (x : Targets) : Prop := (inK .u8) x.lateral ∧ (inK .u8) x.vertical ∧ (inK .u8) x.phase ∧ (inK .i64) x.bank ∧ (inK .i64) x.speed ∧ (inK .i64) x.alt ∧ (inK .i64) x.vs ∧ True
structure RNode where
  number : Int
  role : Int
  steps : Int
  alone : Int
  stage : Int
  cycle : Int
  input : List UInt8
  fresh : Bool
  isHeard : Bool
  heard : Heard
  stepped : Bool
  told : Targets
deriving Inhabited, DecidableEq
structure Piece where
  base : Int
  index : Int
  count : Int
  data : List UInt8
deriving Inhabited, DecidableEq
def tyPiece : Ty Piece := ⟨4, by decide, fun p cs x => ∃ (A_data : Option Addr) (c_data : Nat), cs = [vi x.base, vi x.index, vi x.count, vs A_data x.data c_data] ∧ Arr p tyU8 A_data c_data x.data,
  fun h => by obtain ⟨A_data, c_data, rfl, q0⟩ := h; rfl, fun h => by obtain ⟨A_data, c_data, rfl, q0⟩ := h; rfl, fun k h => by obtain ⟨A_data, c_data, e, q0⟩ := h; exact ⟨A_data, c_data, e, q0.mono k⟩⟩
structure Sender where
  pieces : List Piece
deriving Inhabited, DecidableEq
structure Sett where
  steps : Int
  cycle : Int
  fresh : Bool
  in_ : List UInt8
deriving Inhabited, DecidableEq
def tySett : Ty Sett := ⟨4, by decide, fun p cs x => ∃ (A_in_ : Option Addr) (c_in_ : Nat), cs = [vi x.steps, vi x.cycle, vb x.fresh, vs A_in_ x.in_ c_in_] ∧ Arr p tyU8 A_in_ c_in_ x.in_,
  fun h => by obtain ⟨A_in_, c_in_, rfl, q0⟩ := h; rfl, fun h => by obtain ⟨A_in_, c_in_, rfl, q0⟩ := h; rfl, fun k h => by obtain ⟨A_in_, c_in_, e, q0⟩ := h; exact ⟨A_in_, c_in_, e, q0.mono k⟩⟩
structure Coll where
  base : Int
  count : Int
  parts : List (List UInt8)
  sets : List Sett
deriving Inhabited, DecidableEq
structure RComp where
  node : RNode
  sender : Sender
  collector : Coll
  asked : Bool
  stage : Int
deriving Inhabited, DecidableEq
structure Frame where
  label : Int
  from_ : Int
  cycle : Int
  payload : List UInt8
deriving Inhabited, DecidableEq
def tyFrame : Ty Frame := ⟨4, by decide, fun p cs x => ∃ (A_payload : Option Addr) (c_payload : Nat), cs = [vy x.label, vy x.from_, vi x.cycle, vs A_payload x.payload c_payload] ∧ Arr p tyU8 A_payload c_payload x.payload,
  fun h => by obtain ⟨A_payload, c_payload, rfl, q0⟩ := h; rfl, fun h => by obtain ⟨A_payload, c_payload, rfl, q0⟩ := h; rfl, fun k h => by obtain ⟨A_payload, c_payload, e, q0⟩ := h; exact ⟨A_payload, c_payload, e, q0.mono k⟩⟩
def okFrame (x : Frame) : Prop := (inK .u8) x.label ∧ (inK .u8) x.from_ ∧ (inK .i64) x.cycle ∧ (fun xs => ∀ x ∈ xs, (fun _ => True) x) x.payload ∧ True
structure CallT where
  kind : Int
  next_ : Bool
  cycle : Int
  input : List UInt8
  frame : Frame
  came : Bool
  targets : Targets
deriving Inhabited, DecidableEq
def tyCallT : Ty CallT := ⟨16, by decide, fun p cs x => ∃ (A_input : Option Addr) (c_input : Nat) (A_frame_payload : Option Addr) (c_frame_payload : Nat), cs = [vy x.kind, vb x.next_, vi x.cycle, vs A_input x.input c_input, vy x.frame.label, vy x.frame.from_, vi x.frame.cycle, vs A_frame_payload x.frame.payload c_frame_payload, vb x.came, vy x.targets.lateral, vy x.targets.vertical, vy x.targets.phase, vi x.targets.bank, vi x.targets.speed, vi x.targets.alt, vi x.targets.vs] ∧ Arr p tyU8 A_input c_input x.input ∧ Arr p tyU8 A_frame_payload c_frame_payload x.frame.payload,
  fun h => by obtain ⟨A_input, c_input, A_frame_payload, c_frame_payload, rfl, q0, q1⟩ := h; rfl, fun h => by obtain ⟨A_input, c_input, A_frame_payload, c_frame_payload, rfl, q0, q1⟩ := h; rfl, fun k h => by obtain ⟨A_input, c_input, A_frame_payload, c_frame_payload, e, q0, q1⟩ := h; exact ⟨A_input, c_input, A_frame_payload, c_frame_payload, e, q0.mono k, q1.mono k⟩⟩
def okCallT (x : CallT) : Prop := (inK .u8) x.kind ∧ (fun _ => True) x.next_ ∧ (inK .i64) x.cycle ∧ (fun xs => ∀ x ∈ xs, (fun _ => True) x) x.input ∧ okFrame x.frame ∧ (fun _ => True) x.came ∧ okTargets x.targets ∧ True
structure Rates where
  bank : Int
  speed : Int
  alt : Int
  vs : Int
deriving Inhabited, DecidableEq
structure Result where
  steps : Int
  targets : Targets
deriving Inhabited, DecidableEq
structure Node where
  number : Int
  role : Int
  steps : Int
  alone : Int
  next_ : Int
  cycle : Int
  input : List UInt8
  heard : Heard
  is_ : Bool
  fresh : Bool
  set_ : Sett
  has : Bool
  told : Result
deriving Inhabited, DecidableEq
structure Comp where
  number : Int
  node : Node
  sender : Sender
  collector : Coll
  next_ : Int
  cycle : Int
  asked : Bool
  want : Want
deriving Inhabited, DecidableEq
structure Job where
  base : Int
  snapshot : List UInt8
  sets : List Sett
deriving Inhabited, DecidableEq
structure TwoL where
  a0 : List UInt8
  a1 : List UInt8
deriving Inhabited, DecidableEq
structure TwoB where
  a0 : Bool
  a1 : Bool
deriving Inhabited, DecidableEq
abbrev cHeard (x : Heard) (A_input : Option Addr) (c_input : Nat) : List Value := [vy x.role, vi x.steps, vi x.want.base, vi x.want.have_, vs A_input x.input c_input]
abbrev cTargets (x : Targets) : List Value := [vy x.lateral, vy x.vertical, vy x.phase, vi x.bank, vi x.speed, vi x.alt, vi x.vs]
abbrev cRNode (x : RNode) (A_input : Option Addr) (c_input : Nat) (A_heard_input : Option Addr) (c_heard_input : Nat) : List Value := [vi x.number, vy x.role, vi x.steps, vi x.alone, vi x.stage, vi x.cycle, vs A_input x.input c_input, vb x.fresh, vb x.isHeard, vy x.heard.role, vi x.heard.steps, vi x.heard.want.base, vi x.heard.want.have_, vs A_heard_input x.heard.input c_heard_input, vb x.stepped, vy x.told.lateral, vy x.told.vertical, vy x.told.phase, vi x.told.bank, vi x.told.speed, vi x.told.alt, vi x.told.vs]
abbrev cColl (x : Coll) (A_parts : Option Addr) (c_parts : Nat) (A_sets : Option Addr) (c_sets : Nat) : List Value := [vi x.base, vi x.count, vs A_parts x.parts c_parts, vs A_sets x.sets c_sets]
abbrev cRComp (x : RComp) (A_node_input : Option Addr) (c_node_input : Nat) (A_node_heard_input : Option Addr) (c_node_heard_input : Nat) (A_sender_pieces : Option Addr) (c_sender_pieces : Nat) (A_collector_parts : Option Addr) (c_collector_parts : Nat) (A_collector_sets : Option Addr) (c_collector_sets : Nat) : List Value := [vi x.node.number, vy x.node.role, vi x.node.steps, vi x.node.alone, vi x.node.stage, vi x.node.cycle, vs A_node_input x.node.input c_node_input, vb x.node.fresh, vb x.node.isHeard, vy x.node.heard.role, vi x.node.heard.steps, vi x.node.heard.want.base, vi x.node.heard.want.have_, vs A_node_heard_input x.node.heard.input c_node_heard_input, vb x.node.stepped, vy x.node.told.lateral, vy x.node.told.vertical, vy x.node.told.phase, vi x.node.told.bank, vi x.node.told.speed, vi x.node.told.alt, vi x.node.told.vs, vs A_sender_pieces x.sender.pieces c_sender_pieces, vi x.collector.base, vi x.collector.count, vs A_collector_parts x.collector.parts c_collector_parts, vs A_collector_sets x.collector.sets c_collector_sets, vb x.asked, vi x.stage]
abbrev cFrame (x : Frame) (A_payload : Option Addr) (c_payload : Nat) : List Value := [vy x.label, vy x.from_, vi x.cycle, vs A_payload x.payload c_payload]
abbrev cCallT (x : CallT) (A_input : Option Addr) (c_input : Nat) (A_frame_payload : Option Addr) (c_frame_payload : Nat) : List Value := [vy x.kind, vb x.next_, vi x.cycle, vs A_input x.input c_input, vy x.frame.label, vy x.frame.from_, vi x.frame.cycle, vs A_frame_payload x.frame.payload c_frame_payload, vb x.came, vy x.targets.lateral, vy x.targets.vertical, vy x.targets.phase, vi x.targets.bank, vi x.targets.speed, vi x.targets.alt, vi x.targets.vs]
abbrev cRates (x : Rates) : List Value := [vi x.bank, vi x.speed, vi x.alt, vi x.vs]
abbrev cPiece (x : Piece) (A_data : Option Addr) (c_data : Nat) : List Value := [vi x.base, vi x.index, vi x.count, vs A_data x.data c_data]
abbrev cSett (x : Sett) (A_in_ : Option Addr) (c_in_ : Nat) : List Value := [vi x.steps, vi x.cycle, vb x.fresh, vs A_in_ x.in_ c_in_]
abbrev cResult (x : Result) : List Value := [vi x.steps, vy x.targets.lateral, vy x.targets.vertical, vy x.targets.phase, vi x.targets.bank, vi x.targets.speed, vi x.targets.alt, vi x.targets.vs]
abbrev cNode (x : Node) (A_input : Option Addr) (c_input : Nat) (A_heard_input : Option Addr) (c_heard_input : Nat) (A_set__in_ : Option Addr) (c_set__in_ : Nat) : List Value := [vi x.number, vy x.role, vi x.steps, vi x.alone, vy x.next_, vi x.cycle, vs A_input x.input c_input, vy x.heard.role, vi x.heard.steps, vi x.heard.want.base, vi x.heard.want.have_, vs A_heard_input x.heard.input c_heard_input, vb x.is_, vb x.fresh, vi x.set_.steps, vi x.set_.cycle, vb x.set_.fresh, vs A_set__in_ x.set_.in_ c_set__in_, vb x.has, vi x.told.steps, vy x.told.targets.lateral, vy x.told.targets.vertical, vy x.told.targets.phase, vi x.told.targets.bank, vi x.told.targets.speed, vi x.told.targets.alt, vi x.told.targets.vs]
end Go.Proofs.YtnidomdebhekiaaGreat
