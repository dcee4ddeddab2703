/-
The data of the seat as plain structures. Conditions: none.
-/
import Derived.Test.YtgnajpoebooafaaG7
namespace Go.Proofs.Ytgnajpoebooafaa
set_option linter.unusedVariables false
set_option linter.unusedSimpArgs false
set_option maxRecDepth 100000
open Go.RowKit
structure CaseT where
  number : Int
  alone : Int
  role : Int
  other : Int
  steps : Int
  theirs : Int
  heard : Bool
deriving Inhabited, DecidableEq
def tyCaseT : Ty CaseT := ⟨7, by decide, fun p cs x => cs = [vi x.number, vi x.alone, vy x.role, vy x.other, vi x.steps, vi x.theirs, vb x.heard],
  fun h => by subst h; rfl, fun h => by subst h; rfl, fun _ h => h⟩
theorem flatCaseT : Flat tyCaseT := fun _ _ _ _ h => h
def okCaseT (x : CaseT) : Prop := (inK .i64) x.number ∧ (inK .i64) x.alone ∧ (inK .u8) x.role ∧ (inK .u8) x.other ∧ (inK .i64) x.steps ∧ (inK .i64) x.theirs ∧ (fun _ => True) x.heard ∧ True
structure Targets where
  lateral : Int
  vertical : Int
  phase : Int
  bank : Int
  speed : Int
  alt : Int
  vs : Int
deriving Inhabited, DecidableEq
def tyTargets : Ty Targets := ⟨7, by decide, fun p cs x => cs = [vy x.lateral, vy x.vertical, vy x.phase, vi x.bank, vi x.speed, vi x.alt, vi x.vs],
  fun h => by subst h; rfl, fun h => by subst h; rfl, fun _ h => h⟩
theorem flatTargets : Flat tyTargets := fun _ _ _ _ h => h
def okTargets (x : Targets) : Prop := (inK .u8) x.lateral ∧ (inK .u8) x.vertical ∧ (inK .u8) x.phase ∧ (inK .i64) x.bank ∧ (inK .i64) x.speed ∧ (inK .i64) x.alt ∧ (inK .i64) x.vs ∧ True
structure Result where
  steps : Int
  targets : Targets
deriving Inhabited, DecidableEq
def tyResult : Ty Result := ⟨8, by decide, fun p cs x => cs = [vi x.steps, vy x.targets.lateral, vy x.targets.vertical, vy x.targets.phase, vi x.targets.bank, vi x.targets.speed, vi x.targets.alt, vi x.targets.vs],
  fun h => by subst h; rfl, fun h => by subst h; rfl, fun _ h => h⟩
theorem flatResult : Flat tyResult := fun _ _ _ _ h => h
def okResult (x : Result) : Prop := (inK .i64) x.steps ∧ okTargets x.targets ∧ True
structure Want where
  base : Int
  have_ : Int
deriving Inhabited, DecidableEq
def tyWant : Ty Want := ⟨2, by decide, fun p cs x => cs = [vi x.base, vi x.have_],
  fun h => by subst h; rfl, fun h => by subst h; rfl, fun _ h => h⟩
theorem flatWant : Flat tyWant := fun _ _ _ _ h => h
def okWant (x : Want) : Prop := (inK .i64) x.base ∧ (inK .i64) x.have_ ∧ True
structure Heard where
  role : Int
  steps : Int
  want : Want
  input : List UInt8
deriving Inhabited, DecidableEq
def tyHeard : Ty Heard := ⟨5, by decide, fun p cs x => ∃ (A_input : Option Addr) (c_input : Nat), cs = [vy x.role, vi x.steps, vi x.want.base, vi x.want.have_, vs A_input x.input c_input] ∧ Arr p tyU8 A_input c_input x.input,
  fun h => by obtain ⟨A_input, c_input, rfl, q0⟩ := h; rfl, fun h => by obtain ⟨A_input, c_input, rfl, q0⟩ := h; rfl, fun k h => by obtain ⟨A_input, c_input, e, q0⟩ := h; exact ⟨A_input, c_input, e, q0.mono k⟩⟩
def okHeard (x : Heard) : Prop := (inK .u8) x.role ∧ (inK .i64) x.steps ∧ okWant x.want ∧ (fun xs => ∀ x ∈ xs, (fun _ => True) x) x.input ∧ True
structure Sett where
  steps : Int
  cycle : Int
  fresh : Bool
  in_ : List UInt8
deriving Inhabited, DecidableEq
def tySett : Ty Sett := ⟨4, by decide, fun p cs x => ∃ (A_in_ : Option Addr) (c_in_ : Nat), cs = [vi x.steps, vi x.cycle, vb x.fresh, vs A_in_ x.in_ c_in_] ∧ Arr p tyU8 A_in_ c_in_ x.in_,
  fun h => by obtain ⟨A_in_, c_in_, rfl, q0⟩ := h; rfl, fun h => by obtain ⟨A_in_, c_in_, rfl, q0⟩ := h; rfl, fun k h => by obtain ⟨A_in_, c_in_, e, q0⟩ := h; exact ⟨A_in_, c_in_, e, q0.mono k⟩⟩
def okSett (x : Sett) : Prop := (inK .i64) x.steps ∧ (inK .i64) x.cycle ∧ (fun _ => True) x.fresh ∧ (fun xs => ∀ x ∈ xs, (fun _ => True) x) x.in_ ∧ True
structure TwoI where
  a0 : Int
  a1 : Int
deriving Inhabited, DecidableEq
def tyTwoI : Ty TwoI := ⟨2, by decide, fun p cs x => cs = [vi x.a0, vi x.a1],
  fun h => by subst h; rfl, fun h => by subst h; rfl, fun _ h => h⟩
theorem flatTwoI : Flat tyTwoI := fun _ _ _ _ h => h
def okTwoI (x : TwoI) : Prop := (inK .i64) x.a0 ∧ (inK .i64) x.a1 ∧ True
structure TwoS where
  a0 : Sett
  a1 : Sett
deriving Inhabited, DecidableEq
def tyTwoS : Ty TwoS := ⟨8, by decide, fun p cs x => ∃ (A_a0_in_ : Option Addr) (c_a0_in_ : Nat) (A_a1_in_ : Option Addr) (c_a1_in_ : Nat), cs = [vi x.a0.steps, vi x.a0.cycle, vb x.a0.fresh, vs A_a0_in_ x.a0.in_ c_a0_in_, vi x.a1.steps, vi x.a1.cycle, vb x.a1.fresh, vs A_a1_in_ x.a1.in_ c_a1_in_] ∧ Arr p tyU8 A_a0_in_ c_a0_in_ x.a0.in_ ∧ Arr p tyU8 A_a1_in_ c_a1_in_ x.a1.in_,
  fun h => by obtain ⟨A_a0_in_, c_a0_in_, A_a1_in_, c_a1_in_, rfl, q0, q1⟩ := h; rfl, fun h => by obtain ⟨A_a0_in_, c_a0_in_, A_a1_in_, c_a1_in_, rfl, q0, q1⟩ := h; rfl, fun k h => by obtain ⟨A_a0_in_, c_a0_in_, A_a1_in_, c_a1_in_, e, q0, q1⟩ := h; exact ⟨A_a0_in_, c_a0_in_, A_a1_in_, c_a1_in_, e, q0.mono k, q1.mono k⟩⟩
def okTwoS (x : TwoS) : Prop := okSett x.a0 ∧ okSett x.a1 ∧ True
structure TwoB where
  a0 : Bool
  a1 : Bool
deriving Inhabited, DecidableEq
def tyTwoB : Ty TwoB := ⟨2, by decide, fun p cs x => cs = [vb x.a0, vb x.a1],
  fun h => by subst h; rfl, fun h => by subst h; rfl, fun _ h => h⟩
theorem flatTwoB : Flat tyTwoB := fun _ _ _ _ h => h
def okTwoB (x : TwoB) : Prop := (fun _ => True) x.a0 ∧ (fun _ => True) x.a1 ∧ True
structure TwoT where
  a0 : Targets
  a1 : Targets
deriving Inhabited, DecidableEq
def tyTwoT : Ty TwoT := ⟨14, by decide, fun p cs x => cs = [vy x.a0.lateral, vy x.a0.vertical, vy x.a0.phase, vi x.a0.bank, vi x.a0.speed, vi x.a0.alt, vi x.a0.vs, vy x.a1.lateral, vy x.a1.vertical, vy x.a1.phase, vi x.a1.bank, vi x.a1.speed, vi x.a1.alt, vi x.a1.vs],
  fun h => by subst h; rfl, fun h => by subst h; rfl, fun _ h => h⟩
theorem flatTwoT : Flat tyTwoT := fun _ _ _ _ h => h
def okTwoT (x : TwoT) : Prop := okTargets x.a0 ∧ okTargets x.a1 ∧ True
structure TwoU where
  a0 : Int
  a1 : Int
deriving Inhabited, DecidableEq
def tyTwoU : Ty TwoU := ⟨2, by decide, fun p cs x => cs = [vy x.a0, vy x.a1],
  fun h => by subst h; rfl, fun h => by subst h; rfl, fun _ h => h⟩
theorem flatTwoU : Flat tyTwoU := fun _ _ _ _ h => h
def okTwoU (x : TwoU) : Prop := (inK .u8) x.a0 ∧ (inK .u8) x.a1 ∧ True
structure Round where
  one : List UInt8
  two : List UInt8
  lost : TwoU
  wrong : TwoI
deriving Inhabited, DecidableEq
def tyRound : Ty Round := ⟨6, by decide, fun p cs x => ∃ (A_one : Option Addr) (c_one : Nat) (A_two : Option Addr) (c_two : Nat), cs = [vs A_one x.one c_one, vs A_two x.two c_two, vy x.lost.a0, vy x.lost.a1, vi x.wrong.a0, vi x.wrong.a1] ∧ Arr p tyU8 A_one c_one x.one ∧ Arr p tyU8 A_two c_two x.two,
  fun h => by obtain ⟨A_one, c_one, A_two, c_two, rfl, q0, q1⟩ := h; rfl, fun h => by obtain ⟨A_one, c_one, A_two, c_two, rfl, q0, q1⟩ := h; rfl, fun k h => by obtain ⟨A_one, c_one, A_two, c_two, e, q0, q1⟩ := h; exact ⟨A_one, c_one, A_two, c_two, e, q0.mono k, q1.mono k⟩⟩
def okRound (x : Round) : Prop := (fun xs => ∀ x ∈ xs, (fun _ => True) x) x.one ∧ (fun xs => ∀ x ∈ xs, (fun _ => True) x) x.two ∧ okTwoU x.lost ∧ okTwoI x.wrong ∧ True
structure RNode where
  number : Int
  role : Int
  steps : Int
  alone : Int
  stage : Int
  cycle : Int
  input : List UInt8
  fresh : Bool
  isHeard : Bool
  heard : Heard
  stepped : Bool
  told : Targets
deriving Inhabited, DecidableEq
def tyRNode : Ty RNode := ⟨22, by decide, fun p cs x => ∃ (A_input : Option Addr) (c_input : Nat) (A_heard_input : Option Addr) (c_heard_input : Nat), cs = [vi x.number, vy x.role, vi x.steps, vi x.alone, vi x.stage, vi x.cycle, vs A_input x.input c_input, vb x.fresh, vb x.isHeard, vy x.heard.role, vi x.heard.steps, vi x.heard.want.base, vi x.heard.want.have_, vs A_heard_input x.heard.input c_heard_input, vb x.stepped, vy x.told.lateral, vy x.told.vertical, vy x.told.phase, vi x.told.bank, vi x.told.speed, vi x.told.alt, vi x.told.vs] ∧ Arr p tyU8 A_input c_input x.input ∧ Arr p tyU8 A_heard_input c_heard_input x.heard.input,
  fun h => by obtain ⟨A_input, c_input, A_heard_input, c_heard_input, rfl, q0, q1⟩ := h; rfl, fun h => by obtain ⟨A_input, c_input, A_heard_input, c_heard_input, rfl, q0, q1⟩ := h; rfl, fun k h => by obtain ⟨A_input, c_input, A_heard_input, c_heard_input, e, q0, q1⟩ := h; exact ⟨A_input, c_input, A_heard_input, c_heard_input, e, q0.mono k, q1.mono k⟩⟩
def okRNode (x : RNode) : Prop := (inK .i64) x.number ∧ (inK .u8) x.role ∧ (inK .i64) x.steps ∧ (inK .i64) x.alone ∧ (inK .i64) x.stage ∧ (inK .i64) x.cycle ∧ (fun xs => ∀ x ∈ xs, (fun _ => True) x) x.input ∧ (fun _ => True) x.fresh ∧ (fun _ => True) x.isHeard ∧ okHeard x.heard ∧ (fun _ => True) x.stepped ∧ okTargets x.told ∧ True
structure Frame where
  label : Int
  from_ : Int
  cycle : Int
  payload : List UInt8
deriving Inhabited, DecidableEq
def tyFrame : Ty Frame := ⟨4, by decide, fun p cs x => ∃ (A_payload : Option Addr) (c_payload : Nat), cs = [vy x.label, vy x.from_, vi x.cycle, vs A_payload x.payload c_payload] ∧ Arr p tyU8 A_payload c_payload x.payload,
  fun h => by obtain ⟨A_payload, c_payload, rfl, q0⟩ := h; rfl, fun h => by obtain ⟨A_payload, c_payload, rfl, q0⟩ := h; rfl, fun k h => by obtain ⟨A_payload, c_payload, e, q0⟩ := h; exact ⟨A_payload, c_payload, e, q0.mono k⟩⟩
def okFrame (x : Frame) : Prop := (inK .u8) x.label ∧ (inK .u8) x.from_ ∧ (inK .i64) x.cycle ∧ (fun xs => ∀ x ∈ xs, (fun _ => True) x) x.payload ∧ True
structure CallT where
  kind : Int
  next_ : Bool
  cycle : Int
  input : List UInt8
  want : Want
  frame : Frame
  came : Bool
  targets : Targets
deriving Inhabited, DecidableEq
def tyCallT : Ty CallT := ⟨18, by decide, fun p cs x => ∃ (A_input : Option Addr) (c_input : Nat) (A_frame_payload : Option Addr) (c_frame_payload : Nat), cs = [vy x.kind, vb x.next_, vi x.cycle, vs A_input x.input c_input, vi x.want.base, vi x.want.have_, vy x.frame.label, vy x.frame.from_, vi x.frame.cycle, vs A_frame_payload x.frame.payload c_frame_payload, vb x.came, vy x.targets.lateral, vy x.targets.vertical, vy x.targets.phase, vi x.targets.bank, vi x.targets.speed, vi x.targets.alt, vi x.targets.vs] ∧ Arr p tyU8 A_input c_input x.input ∧ Arr p tyU8 A_frame_payload c_frame_payload x.frame.payload,
  fun h => by obtain ⟨A_input, c_input, A_frame_payload, c_frame_payload, rfl, q0, q1⟩ := h; rfl, fun h => by obtain ⟨A_input, c_input, A_frame_payload, c_frame_payload, rfl, q0, q1⟩ := h; rfl, fun k h => by obtain ⟨A_input, c_input, A_frame_payload, c_frame_payload, e, q0, q1⟩ := h; exact ⟨A_input, c_input, A_frame_payload, c_frame_payload, e, q0.mono k, q1.mono k⟩⟩
def okCallT (x : CallT) : Prop := (inK .u8) x.kind ∧ (fun _ => True) x.next_ ∧ (inK .i64) x.cycle ∧ (fun xs => ∀ x ∈ xs, (fun _ => True) x) x.input ∧ okWant x.want ∧ okFrame x.frame ∧ (fun _ => True) x.came ∧ okTargets x.targets ∧ True
structure TwoL where
  a0 : List UInt8
  a1 : List UInt8
deriving Inhabited, DecidableEq
def tyTwoL : Ty TwoL := ⟨2, by decide, fun p cs x => ∃ (A_a0 : Option Addr) (c_a0 : Nat) (A_a1 : Option Addr) (c_a1 : Nat), cs = [vs A_a0 x.a0 c_a0, vs A_a1 x.a1 c_a1] ∧ Arr p tyU8 A_a0 c_a0 x.a0 ∧ Arr p tyU8 A_a1 c_a1 x.a1,
  fun h => by obtain ⟨A_a0, c_a0, A_a1, c_a1, rfl, q0, q1⟩ := h; rfl, fun h => by obtain ⟨A_a0, c_a0, A_a1, c_a1, rfl, q0, q1⟩ := h; rfl, fun k h => by obtain ⟨A_a0, c_a0, A_a1, c_a1, e, q0, q1⟩ := h; exact ⟨A_a0, c_a0, A_a1, c_a1, e, q0.mono k, q1.mono k⟩⟩
def okTwoL (x : TwoL) : Prop := (fun xs => ∀ x ∈ xs, (fun _ => True) x) x.a0 ∧ (fun xs => ∀ x ∈ xs, (fun _ => True) x) x.a1 ∧ True
structure Node where
  number : Int
  role : Int
  steps : Int
  alone : Int
  next_ : Int
  cycle : Int
  input : List UInt8
  heard : Heard
  is_ : Bool
  fresh : Bool
  set_ : Sett
  has : Bool
  told : Result
deriving Inhabited, DecidableEq
def tyNode : Ty Node := ⟨27, by decide, fun p cs x => ∃ (A_input : Option Addr) (c_input : Nat) (A_heard_input : Option Addr) (c_heard_input : Nat) (A_set__in_ : Option Addr) (c_set__in_ : Nat), cs = [vi x.number, vy x.role, vi x.steps, vi x.alone, vy x.next_, vi x.cycle, vs A_input x.input c_input, vy x.heard.role, vi x.heard.steps, vi x.heard.want.base, vi x.heard.want.have_, vs A_heard_input x.heard.input c_heard_input, vb x.is_, vb x.fresh, vi x.set_.steps, vi x.set_.cycle, vb x.set_.fresh, vs A_set__in_ x.set_.in_ c_set__in_, vb x.has, vi x.told.steps, vy x.told.targets.lateral, vy x.told.targets.vertical, vy x.told.targets.phase, vi x.told.targets.bank, vi x.told.targets.speed, vi x.told.targets.alt, vi x.told.targets.vs] ∧ Arr p tyU8 A_input c_input x.input ∧ Arr p tyU8 A_heard_input c_heard_input x.heard.input ∧ Arr p tyU8 A_set__in_ c_set__in_ x.set_.in_,
  fun h => by obtain ⟨A_input, c_input, A_heard_input, c_heard_input, A_set__in_, c_set__in_, rfl, q0, q1, q2⟩ := h; rfl, fun h => by obtain ⟨A_input, c_input, A_heard_input, c_heard_input, A_set__in_, c_set__in_, rfl, q0, q1, q2⟩ := h; rfl, fun k h => by obtain ⟨A_input, c_input, A_heard_input, c_heard_input, A_set__in_, c_set__in_, e, q0, q1, q2⟩ := h; exact ⟨A_input, c_input, A_heard_input, c_heard_input, A_set__in_, c_set__in_, e, q0.mono k, q1.mono k, q2.mono k⟩⟩
def okNode (x : Node) : Prop := (inK .i64) x.number ∧ (inK .u8) x.role ∧ (inK .i64) x.steps ∧ (inK .i64) x.alone ∧ (inK .u8) x.next_ ∧ (inK .i64) x.cycle ∧ (fun xs => ∀ x ∈ xs, (fun _ => True) x) x.input ∧ okHeard x.heard ∧ (fun _ => True) x.is_ ∧ (fun _ => True) x.fresh ∧ okSett x.set_ ∧ (fun _ => True) x.has ∧ okResult x.told ∧ True
structure TwoF where
  a0 : Frame
  a1 : Frame
deriving Inhabited, DecidableEq
def tyTwoF : Ty TwoF := ⟨8, by decide, fun p cs x => ∃ (A_a0_payload : Option Addr) (c_a0_payload : Nat) (A_a1_payload : Option Addr) (c_a1_payload : Nat), cs = [vy x.a0.label, vy x.a0.from_, vi x.a0.cycle, vs A_a0_payload x.a0.payload c_a0_payload, vy x.a1.label, vy x.a1.from_, vi x.a1.cycle, vs A_a1_payload x.a1.payload c_a1_payload] ∧ Arr p tyU8 A_a0_payload c_a0_payload x.a0.payload ∧ Arr p tyU8 A_a1_payload c_a1_payload x.a1.payload,
  fun h => by obtain ⟨A_a0_payload, c_a0_payload, A_a1_payload, c_a1_payload, rfl, q0, q1⟩ := h; rfl, fun h => by obtain ⟨A_a0_payload, c_a0_payload, A_a1_payload, c_a1_payload, rfl, q0, q1⟩ := h; rfl, fun k h => by obtain ⟨A_a0_payload, c_a0_payload, A_a1_payload, c_a1_payload, e, q0, q1⟩ := h; exact ⟨A_a0_payload, c_a0_payload, A_a1_payload, c_a1_payload, e, q0.mono k, q1.mono k⟩⟩
def okTwoF (x : TwoF) : Prop := okFrame x.a0 ∧ okFrame x.a1 ∧ True
abbrev cCaseT (x : CaseT) : List Value := [vi x.number, vi x.alone, vy x.role, vy x.other, vi x.steps, vi x.theirs, vb x.heard]
abbrev cTargets (x : Targets) : List Value := [vy x.lateral, vy x.vertical, vy x.phase, vi x.bank, vi x.speed, vi x.alt, vi x.vs]
abbrev cResult (x : Result) : List Value := [vi x.steps, vy x.targets.lateral, vy x.targets.vertical, vy x.targets.phase, vi x.targets.bank, vi x.targets.speed, vi x.targets.alt, vi x.targets.vs]
abbrev cHeard (x : Heard) (A_input : Option Addr) (c_input : Nat) : List Value := [vy x.role, vi x.steps, vi x.want.base, vi x.want.have_, vs A_input x.input c_input]
abbrev cSett (x : Sett) (A_in_ : Option Addr) (c_in_ : Nat) : List Value := [vi x.steps, vi x.cycle, vb x.fresh, vs A_in_ x.in_ c_in_]
abbrev cRound (x : Round) (A_one : Option Addr) (c_one : Nat) (A_two : Option Addr) (c_two : Nat) : List Value := [vs A_one x.one c_one, vs A_two x.two c_two, vy x.lost.a0, vy x.lost.a1, vi x.wrong.a0, vi x.wrong.a1]
abbrev cRNode (x : RNode) (A_input : Option Addr) (c_input : Nat) (A_heard_input : Option Addr) (c_heard_input : Nat) : List Value := [vi x.number, vy x.role, vi x.steps, vi x.alone, vi x.stage, vi x.cycle, vs A_input x.input c_input, vb x.fresh, vb x.isHeard, vy x.heard.role, vi x.heard.steps, vi x.heard.want.base, vi x.heard.want.have_, vs A_heard_input x.heard.input c_heard_input, vb x.stepped, vy x.told.lateral, vy x.told.vertical, vy x.told.phase, vi x.told.bank, vi x.told.speed, vi x.told.alt, vi x.told.vs]
abbrev cFrame (x : Frame) (A_payload : Option Addr) (c_payload : Nat) : List Value := [vy x.label, vy x.from_, vi x.cycle, vs A_payload x.payload c_payload]
abbrev cCallT (x : CallT) (A_input : Option Addr) (c_input : Nat) (A_frame_payload : Option Addr) (c_frame_payload : Nat) : List Value := [vy x.kind, vb x.next_, vi x.cycle, vs A_input x.input c_input, vi x.want.base, vi x.want.have_, vy x.frame.label, vy x.frame.from_, vi x.frame.cycle, vs A_frame_payload x.frame.payload c_frame_payload, vb x.came, vy x.targets.lateral, vy x.targets.vertical, vy x.targets.phase, vi x.targets.bank, vi x.targets.speed, vi x.targets.alt, vi x.targets.vs]
abbrev cNode (x : Node) (A_input : Option Addr) (c_input : Nat) (A_heard_input : Option Addr) (c_heard_input : Nat) (A_set__in_ : Option Addr) (c_set__in_ : Nat) : List Value := [vi x.number, vy x.role, vi x.steps, vi x.alone, vy x.next_, vi x.cycle, vs A_input x.input c_input, vy x.heard.role, vi x.heard.steps, vi x.heard.want.base, vi x.heard.want.have_, vs A_heard_input x.heard.input c_heard_input, vb x.is_, vb x.fresh, vi x.set_.steps, vi x.set_.cycle, vb x.set_.fresh, vs A_set__in_ x.set_.in_ c_set__in_, vb x.has, vi x.told.steps, vy x.told.targets.lateral, vy x.told.targets.vertical, vy x.told.targets.phase, vi x.told.targets.bank, vi x.told.targets.speed, vi x.told.targets.alt, vi x.told.targets.vs]
end Go.Proofs.Ytgnajpoebooafaa
