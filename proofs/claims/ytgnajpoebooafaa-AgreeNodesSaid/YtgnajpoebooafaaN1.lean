/-
Walks, printed by wip/gen. Conditions: each theorem's own.
-/
import Derived.Test.YtgnajpoebooafaaN0
namespace Go.Proofs.Ytgnajpoebooafaa
set_option linter.unusedVariables false
set_option linter.unusedSimpArgs false
open Go.RowKit
def o60 (a : Frame) (b : Frame) : Bool :=
  ((((((a.label == b.label) && (a.from_ == b.from_)) && (a.cycle == b.cycle)) && (a.payload == b.payload))))
set_option maxRecDepth 100000 in
theorem c60 (g : Gh) (a : Frame) (Aa_payload : Option Addr) (ca_payload : Nat) (b : Frame) (Ab_payload : Option Addr) (cb_payload : Nat) (fa_payload : Arr g.r tyU8 Aa_payload ca_payload a.payload) (fb_payload : Arr g.r tyU8 Ab_payload cb_payload b.payload) {r : Bool} (hS : o60 a b = r) :
    Ctr Try.prog 60 [Value.agg #[vy a.label, vy a.from_, vi a.cycle, vs Aa_payload a.payload ca_payload], Value.agg #[vy b.label, vy b.from_, vi b.cycle, vs Ab_payload b.payload cb_payload]] g [] (fun v ψ o => v = vb r ∧ o = []) := by
  unfold o60 at hS
  refine xFn Try.f60 (Try.f60.body.getD .skip) 33 ?_
  have nfa_payload := fa_payload.len
  have nfb_payload := fb_payload.len
  refine xSq ?_
  refine xRg ?_
  refine xE eB ?_
  rintro _ _ _ - ⟨b1, rfl, rfl, rfl⟩
  refine xE eB ?_
  rintro _ _ _ - ⟨b2, rfl, rfl, rfl⟩
  refine xB 1 [] [(2, vp b1 0), (3, vp b2 0)] ?_
  refine xRe ?_
  refine wpq_then ?_
  refine xSq ?_
  refine xRg ?_
  refine xB 6 [(1, 1), (3, 0)] [(2, vp b1 0), (3, vp b2 0), (10, vb (a.label == b.label))] ?_
  refine wpr_grp 12 [(2, vp b1 0), (3, vp b2 0), (16, vb ((a.label == b.label) && (a.from_ == b.from_)))] (fun hk5 => ?_) ?_
  · refine wpq_split 10 (b := (a.label == b.label)) (by kernel_rfl) (fun q3 => ?_) (fun q3 => ?_)
    · have q3p : a.label = b.label := eq_of_beq q3
      refine xB 6 [(7, 1), (9, 0)] [(2, vp b1 0), (3, vp b2 0), (16, vb (a.from_ == b.from_))] ?_
      refine wpq_re 16 (v := vb (a.from_ == b.from_)) (Value.bool (((a.label == b.label) && (a.from_ == b.from_)))) (by kernel_rfl) (re_and1 q3) ?_
      exact wpq_sub _ (by kernel_rfl) hk5
    · have q3p : ¬ (a.label = b.label) := ne_of_beq_false_ q3
      refine xB 6 [] [(2, vp b1 0), (3, vp b2 0), (16, vb false)] ?_
      refine wpq_re 16 (v := vb false) (Value.bool (((a.label == b.label) && (a.from_ == b.from_)))) (by kernel_rfl) (re_and0 q3) ?_
      exact wpq_sub _ (by kernel_rfl) hk5
  · refine xB 1 [] [(2, vp b1 0), (3, vp b2 0), (17, vb ((a.label == b.label) && (a.from_ == b.from_)))] ?_
    refine wpr_grp 19 [(2, vp b1 0), (3, vp b2 0), (23, vb (((a.label == b.label) && (a.from_ == b.from_)) && (a.cycle == b.cycle)))] (fun hk12 => ?_) ?_
    · refine wpq_split 17 (b := ((a.label == b.label) && (a.from_ == b.from_))) (by kernel_rfl) (fun q4 => ?_) (fun q4 => ?_)
      · have q4l := (and_true_ q4).1
        have q4r := (and_true_ q4).2
        have q4lp : a.label = b.label := eq_of_beq q4l
        have q4rp : a.from_ = b.from_ := eq_of_beq q4r
        refine xB 6 [(14, 1), (16, 0)] [(2, vp b1 0), (3, vp b2 0), (23, vb (a.cycle == b.cycle))] ?_
        refine wpq_re 23 (v := vb (a.cycle == b.cycle)) (Value.bool ((((a.label == b.label) && (a.from_ == b.from_)) && (a.cycle == b.cycle)))) (by kernel_rfl) (re_and1 q4) ?_
        exact wpq_sub _ (by kernel_rfl) hk12
      · refine xB 6 [] [(2, vp b1 0), (3, vp b2 0), (23, vb false)] ?_
        refine wpq_re 23 (v := vb false) (Value.bool ((((a.label == b.label) && (a.from_ == b.from_)) && (a.cycle == b.cycle)))) (by kernel_rfl) (re_and0 q4) ?_
        exact wpq_sub _ (by kernel_rfl) hk12
    · refine xB 1 [] [(2, vp b1 0), (3, vp b2 0), (24, vb (((a.label == b.label) && (a.from_ == b.from_)) && (a.cycle == b.cycle)))] ?_
      refine wpr_grp 28 [(32, vb ((((a.label == b.label) && (a.from_ == b.from_)) && (a.cycle == b.cycle)) && (a.payload == b.payload)))] (fun hk19 => ?_) ?_
      · refine wpq_split 24 (b := (((a.label == b.label) && (a.from_ == b.from_)) && (a.cycle == b.cycle))) (by kernel_rfl) (fun q5 => ?_) (fun q5 => ?_)
        · have q5l := (and_true_ q5).1
          have q5r := (and_true_ q5).2
          have q5ll := (and_true_ q5l).1
          have q5lr := (and_true_ q5l).2
          have q5llp : a.label = b.label := eq_of_beq q5ll
          have q5lrp : a.from_ = b.from_ := eq_of_beq q5lr
          have q5rp : a.cycle = b.cycle := eq_of_beq q5r
          refine xB 2 [(21, 1)] [(3, vp b2 0), (24, vb true), (26, vs Aa_payload a.payload ca_payload)] ?_
          refine xV (qStr fa_payload) ?_
          refine xB 2 [(24, 0)] [(24, vb true), (27, vt a.payload), (29, vs Ab_payload b.payload cb_payload)] ?_
          refine xV (qStr fb_payload) ?_
          refine xV (qEqS (a.payload) (b.payload)) ?_
          refine xB 1 [] [(32, vb (a.payload == b.payload))] ?_
          refine wpq_re 32 (v := vb (a.payload == b.payload)) (Value.bool (((((a.label == b.label) && (a.from_ == b.from_)) && (a.cycle == b.cycle)) && (a.payload == b.payload)))) (by kernel_rfl) (re_and1 q5) ?_
          exact wpq_sub _ (by kernel_rfl) hk19
        · refine xB 8 [] [(32, vb false)] ?_
          refine wpq_re 32 (v := vb false) (Value.bool (((((a.label == b.label) && (a.from_ == b.from_)) && (a.cycle == b.cycle)) && (a.payload == b.payload)))) (by kernel_rfl) (re_and0 q5) ?_
          exact wpq_sub _ (by kernel_rfl) hk19
      · refine xB 1 [] [(4, vb ((((a.label == b.label) && (a.from_ == b.from_)) && (a.cycle == b.cycle)) && (a.payload == b.payload)))] ?_
        refine xRe ?_
        refine wpq_then ?_
        have eS := hS.symm
        subst eS
        exact xRet [] [4] (Gh.le.refl _) ⟨by kernel_rfl, by kernel_rfl⟩ (fun _ _ h => h)

def o71 (n : Node) (f : Frame) (came : Bool) (label : Int) : Bool :=
  (((((came && (f.label == label)) && (f.from_ == (IntKind.u8.wrap (IntKind.i64.wrap (3 - n.number))))) && (f.cycle == n.cycle))))
set_option maxRecDepth 100000 in
theorem c71 (g : Gh) (a_n : Addr) (n : Node) (An_input : Option Addr) (cn_input : Nat) (An_heard_input : Option Addr) (cn_heard_input : Nat) (An_set__in_ : Option Addr) (cn_set__in_ : Nat) (f : Frame) (Af_payload : Option Addr) (cf_payload : Nat) (came : Bool) (label : Int) (hc_n : Cells g.r a_n (cNode n An_input cn_input An_heard_input cn_heard_input An_set__in_ cn_set__in_)) (fn_input : Arr g.r tyU8 An_input cn_input n.input) (fn_heard_input : Arr g.r tyU8 An_heard_input cn_heard_input n.heard.input) (fn_set__in_ : Arr g.r tyU8 An_set__in_ cn_set__in_ n.set_.in_) (ff_payload : Arr g.r tyU8 Af_payload cf_payload f.payload) {r : Bool} (hS : o71 n f came label = r) :
    Ctr Try.prog 71 [Value.pointer (some a_n), Value.agg #[vy f.label, vy f.from_, vi f.cycle, vs Af_payload f.payload cf_payload], vb came, vy label] g [] (fun v ψ o => v = vb r ∧ o = []) := by
  unfold o71 at hS
  refine xFn Try.f71 (Try.f71.body.getD .skip) 36 ?_
  have nfn_input := fn_input.len
  have nfn_heard_input := fn_heard_input.len
  have nfn_set__in_ := fn_set__in_.len
  have nff_payload := ff_payload.len
  refine xSq ?_
  refine xRg ?_
  refine xE eB ?_
  rintro _ _ _ - ⟨b1, rfl, rfl, rfl⟩
  refine xB 1 [] [(0, Value.pointer (some a_n)), (2, vb came), (3, vy label), (5, vp b1 0)] ?_
  refine xRe ?_
  refine wpq_then ?_
  refine xSq ?_
  refine xDr 0 [3, 9, 13, 20, 24] [27] [some ⟨b1, 100, (cFrame f Af_payload cf_payload)⟩] 28 (fun RG => ?_) (fun _ _ _ _ _ h => h)
  refine xT 26 [0, 1] [] [some 0] [(0, Value.pointer (some a_n)), (3, vy label), (5, vp b1 0), (10, vb came)] RG (Psi.le.refl _) ?_
  refine wpa_grp 21 [true, true, true, true, true, true, true, false, false, false, false, false, false, false, false, false, false, false, false, false, false, false, false, false, false, false, false, false] [(0, Value.pointer (some a_n)), (5, vp b1 0), (15, vb (came && (f.label == label)))] (fun hk1 => ?_) ?_
  · refine wpq_split 10 (b := came) (by kernel_rfl) (fun q2 => ?_) (fun q2 => ?_)
    · refine xT 21 [2, 3, 4, 5, 6] [(3, 0)] [some 0] [(0, Value.pointer (some a_n)), (5, vp b1 0), (15, vb (f.label == label))] RG (Psi.le.refl _) ?_
      refine wpq_re 15 (v := vb (f.label == label)) (Value.bool ((came && (f.label == label)))) (by kernel_rfl) (re_and1 q2) ?_
      exact wpq_sub _ (by kernel_rfl) hk1
    · refine xT 21 [2, 3, 4, 5, 6] [] [some 0] [(0, Value.pointer (some a_n)), (5, vp b1 0), (15, vb false)] RG (Psi.le.refl _) ?_
      refine wpq_re 15 (v := vb false) (Value.bool ((came && (f.label == label)))) (by kernel_rfl) (re_and0 q2) ?_
      exact wpq_sub _ (by kernel_rfl) hk1
  · refine xT 20 [7] [] [some 0] [(0, Value.pointer (some a_n)), (5, vp b1 0), (16, vb (came && (f.label == label)))] RG (Psi.le.refl _) ?_
    refine wpa_grp 10 [true, true, true, true, true, true, true, true, true, true, true, true, true, true, true, true, true, true, false, false, false, false, false, false, false, false, false, false] [(0, Value.pointer (some a_n)), (5, vp b1 0), (26, vb ((came && (f.label == label)) && (f.from_ == (IntKind.u8.wrap (IntKind.i64.wrap (3 - n.number))))))] (fun hk7 => ?_) ?_
    · refine wpq_split 16 (b := (came && (f.label == label))) (by kernel_rfl) (fun q3 => ?_) (fun q3 => ?_)
      · have q3l := (and_true_ q3).1
        have q3r := (and_true_ q3).2
        have q3rp : f.label = label := eq_of_beq q3r
        refine xT 15 [8, 9, 10, 11, 12] [(9, 0)] [some 0] [(0, Value.pointer (some a_n)), (5, vp b1 0), (16, vb true), (18, vy f.from_), (21, Value.pointer (some a_n))] RG (Psi.le.refl _) ?_
        refine xTv 13 [some 0] RG (Psi.le.refl _) (qLdP a_n 0 hc_n) ?_
        refine xT 10 [14, 15, 16, 17] [] [some 0] [(0, Value.pointer (some a_n)), (5, vp b1 0), (26, vb (f.from_ == (IntKind.u8.wrap (IntKind.i64.wrap (3 - n.number)))))] RG (Psi.le.refl _) ?_
        refine wpq_re 26 (v := vb (f.from_ == (IntKind.u8.wrap (IntKind.i64.wrap (3 - n.number))))) (Value.bool (((came && (f.label == label)) && (f.from_ == (IntKind.u8.wrap (IntKind.i64.wrap (3 - n.number))))))) (by kernel_rfl) (re_and1 q3) ?_
        exact wpq_sub _ (by kernel_rfl) hk7
      · refine xT 10 [8, 9, 10, 11, 12, 13, 14, 15, 16, 17] [] [some 0] [(0, Value.pointer (some a_n)), (5, vp b1 0), (26, vb false)] RG (Psi.le.refl _) ?_
        refine wpq_re 26 (v := vb false) (Value.bool (((came && (f.label == label)) && (f.from_ == (IntKind.u8.wrap (IntKind.i64.wrap (3 - n.number))))))) (by kernel_rfl) (re_and0 q3) ?_
        exact wpq_sub _ (by kernel_rfl) hk7
    · refine xT 9 [18] [] [some 0] [(0, Value.pointer (some a_n)), (5, vp b1 0), (27, vb ((came && (f.label == label)) && (f.from_ == (IntKind.u8.wrap (IntKind.i64.wrap (3 - n.number))))))] RG (Psi.le.refl _) ?_
      refine wpa_grp 1 [true, true, true, true, true, true, true, true, true, true, true, true, true, true, true, true, true, true, true, true, true, true, true, true, true, true, true, false] [(35, vb (((came && (f.label == label)) && (f.from_ == (IntKind.u8.wrap (IntKind.i64.wrap (3 - n.number))))) && (f.cycle == n.cycle)))] (fun hk18 => ?_) ?_
      · refine wpq_split 27 (b := ((came && (f.label == label)) && (f.from_ == (IntKind.u8.wrap (IntKind.i64.wrap (3 - n.number)))))) (by kernel_rfl) (fun q4 => ?_) (fun q4 => ?_)
        · have q4l := (and_true_ q4).1
          have q4r := (and_true_ q4).2
          have q4ll := (and_true_ q4l).1
          have q4lr := (and_true_ q4l).2
          have q4lrp : f.label = label := eq_of_beq q4lr
          have q4rp : f.from_ = (IntKind.u8.wrap (IntKind.i64.wrap (3 - n.number))) := eq_of_beq q4r
          refine xT 4 [19, 20, 21, 22, 23] [(20, 0)] [some 0] [(27, vb true), (29, vi f.cycle), (32, Value.pointer (some (Addr.add a_n 5)))] RG (Psi.le.refl _) ?_
          refine xTv 24 [some 0] RG (Psi.le.refl _) (qLdP a_n 5 hc_n) ?_
          refine xT 1 [25, 26] [] [some 0] [(35, vb (f.cycle == n.cycle))] RG (Psi.le.refl _) ?_
          refine wpq_re 35 (v := vb (f.cycle == n.cycle)) (Value.bool ((((came && (f.label == label)) && (f.from_ == (IntKind.u8.wrap (IntKind.i64.wrap (3 - n.number))))) && (f.cycle == n.cycle)))) (by kernel_rfl) (re_and1 q4) ?_
          exact wpq_sub _ (by kernel_rfl) hk18
        · refine xT 1 [19, 20, 21, 22, 23, 24, 25, 26] [] [some 0] [(35, vb false)] RG (Psi.le.refl _) ?_
          refine wpq_re 35 (v := vb false) (Value.bool ((((came && (f.label == label)) && (f.from_ == (IntKind.u8.wrap (IntKind.i64.wrap (3 - n.number))))) && (f.cycle == n.cycle)))) (by kernel_rfl) (re_and0 q4) ?_
          exact wpq_sub _ (by kernel_rfl) hk18
      · refine xT 0 [27] [] [some 0] [(8, vb (((came && (f.label == label)) && (f.from_ == (IntKind.u8.wrap (IntKind.i64.wrap (3 - n.number))))) && (f.cycle == n.cycle)))] RG (Psi.le.refl _) ?_
        refine xAe (lds := [3, 9, 13, 20, 24]) ?_
        refine wpq_then ?_
        have eS := hS.symm
        subst eS
        exact xRet [] [8] (Gh.le.refl _) ⟨by kernel_rfl, by kernel_rfl⟩ (fun _ _ h => h)

def o28 (p : List UInt8) : Option (Heard × Int) :=
  (cond ((decide ((((p).length : Nat) : Int) < 19) || decide ((((p).length : Nat) : Int) > 419))) (some (((⟨0, 0, (⟨0, 0⟩ : Want), ([] : List UInt8)⟩ : Heard), (4 : Int)))) (bindO (τ := Int) (o55 ((List.drop 1 p) : List UInt8) (8 : Int)) fun y11 => (bindO (τ := Int) (o55 ((List.drop 9 p) : List UInt8) (8 : Int)) fun y14 => (bindO (τ := Int) (o55 ((List.drop 17 p) : List UInt8) (2 : Int)) fun y17 => (letJ (τ := (List UInt8)) (o56 ((List.drop 19 p) : List UInt8)) fun y20 => (bindO (τ := (List UInt8) × Int) (o25 (⟨((List.getD p 0 0).toNat : Int), y11, (⟨y14, y17⟩ : Want), y20⟩ : Heard)) fun y216 => (cond ((y216.2 != 0)) (some (((⟨0, 0, (⟨0, 0⟩ : Want), ([] : List UInt8)⟩ : Heard), (4 : Int)))) (some (((⟨((List.getD p 0 0).toNat : Int), y11, (⟨y14, y17⟩ : Want), y20⟩ : Heard), (0 : Int)))))))))))
set_option maxRecDepth 100000 in
theorem c28 (g : Gh) (p : List UInt8) (Ap : Option Addr) (cp : Nat) (fp : Arr g.r tyU8 Ap cp p) {r : Heard × Int} (hS : o28 p = some r) :
    Ctr Try.prog 28 [vs Ap p cp] g [] (fun v ψ o => ∃ (Ar_0_input : Option Addr) (cr_0_input : Nat), v = Value.tuple #[Value.agg #[vy r.1.role, vi r.1.steps, vi r.1.want.base, vi r.1.want.have_, vs Ar_0_input r.1.input cr_0_input], vi r.2] ∧ o = [] ∧ Arr ψ tyU8 Ar_0_input cr_0_input r.1.input) := by
  unfold o28 at hS
  refine xFn Try.f28 (Try.f28.body.getD .skip) 42 ?_
  have nfp := fp.len
  refine xSq ?_
  refine xRg ?_
  refine xE eB ?_
  rintro _ _ _ - ⟨b1, rfl, rfl, rfl⟩
  refine xB 1 [] [(0, vs Ap p cp), (2, vp b1 0)] ?_
  refine xRe ?_
  refine wpq_then ?_
  refine xSq ?_
  refine xSq ?_
  refine xRg ?_
  refine xB 4 [] [(0, vs Ap p cp), (2, vp b1 0), (10, vb (decide ((((p).length : Nat) : Int) < 19)))] ?_
  refine wpr_grp 8 [(0, vs Ap p cp), (2, vp b1 0), (14, vb (decide ((((p).length : Nat) : Int) < 19) || decide ((((p).length : Nat) : Int) > 419)))] (fun hk3 => ?_) ?_
  · refine wpq_split 10 (b := decide ((((p).length : Nat) : Int) < 19)) (by kernel_rfl) (fun q2 => ?_) (fun q2 => ?_)
    · have q2p := of_decide_eq_true q2
      refine xB 4 [] [(0, vs Ap p cp), (2, vp b1 0), (14, vb true)] ?_
      refine wpq_re 14 (v := vb true) (Value.bool ((decide ((((p).length : Nat) : Int) < 19) || decide ((((p).length : Nat) : Int) > 419)))) (by kernel_rfl) (re_or1 q2) ?_
      exact wpq_sub _ (by kernel_rfl) hk3
    · have q2p := of_decide_eq_false q2
      refine xB 4 [] [(0, vs Ap p cp), (2, vp b1 0), (14, vb (decide ((((p).length : Nat) : Int) > 419)))] ?_
      refine wpq_re 14 (v := vb (decide ((((p).length : Nat) : Int) > 419))) (Value.bool ((decide ((((p).length : Nat) : Int) < 19) || decide ((((p).length : Nat) : Int) > 419)))) (by kernel_rfl) (re_or0 q2) ?_
      exact wpq_sub _ (by kernel_rfl) hk3
  · refine xRe ?_
    refine wpq_then ?_
    refine xCd ((decide ((((p).length : Nat) : Int) < 19) || decide ((((p).length : Nat) : Int) > 419))) (fun h3 => ?_) (fun h3 => ?_)
    · have hS := cond_T h3 hS
      refine xSq ?_
      refine xRg ?_
      refine xBo 3 [(1, 0)] [some ⟨b1, 50, (cHeard (⟨0, 0, (⟨0, 0⟩ : Want), ([] : List UInt8)⟩ : Heard) none 0)⟩] [(2, vp b1 0), (3, vi 4)] ?_
      refine xRe ?_
      refine wpq_then ?_
      have eS := (Option.some.inj hS).symm
      subst eS
      exact xRetC [] [(2, 0)] (Gh.le.refl _) ⟨none, 0, by kernel_rfl, by kernel_rfl, Arr.nil⟩ (fun _ _ h => h)
    · have hS := cond_F h3 hS
      have h3l := (or_false_ h3).1
      have h3r := (or_false_ h3).2
      have h3lp := of_decide_eq_false h3l
      have h3rp := of_decide_eq_false h3r
      refine xSk ?_
      refine wpq_then ?_
      refine xSub [(0, vs Ap p cp), (2, vp b1 0)] ?_
      refine xSq ?_
      refine xDr 0 [2] [18, 16] [some ⟨b1, 50, (cHeard (⟨0, 0, (⟨0, 0⟩ : Want), ([] : List UInt8)⟩ : Heard) none 0)⟩] 19 (fun RG => ?_) (fun _ _ _ _ _ h => h)
      have i5 : 0 < (p).length := by omega
      obtain ⟨ad4, cs4, hA4, hr4, hc4⟩ := fp.at_ (get_getD (d := 0) i5)
      have hr4 : cs4 = [vy ((List.getD p 0 0).toNat : Int)] := hr4
      subst hr4
      have nb4 := UInt8.toNat_lt (List.getD p 0 0)
      refine xT 18 [0] [] [some 0] [(0, vs Ap p cp), (2, vp b1 0), (16, vs Ap p cp)] RG (Psi.le.refl _) ?_
      refine xTp 1 RG (fun _ => (qIx 0 1 hA4 rfl i5)) ?_
      refine xTv 2 [some 0] RG (Psi.le.refl _) (qLdP (Addr.add ad4 (0 * 1)) 0 hc4) ?_
      have ncapf6 := fp.cap
      have f6 : Arr g.r tyU8 (offA Ap cp 1 1) (cp - 1) (List.drop 1 p) := fp.cut_from 1 (by omega)
      have nf6 := f6.len
      have hlf6 : (p).length - 1 = ((List.drop 1 p)).length := by simp only [List.length_take, List.length_drop] <;> omega
      have hvf6 : ((((List.drop 1 p)).length : Nat) : Int) = (((p).length : Nat) : Int) - 1 := by omega
      refine xT 15 [3] [] [some 0] [(0, vs Ap p cp), (2, vp b1 0), (18, vy ((List.getD p 0 0).toNat : Int)), (19, vs Ap p cp)] RG (Psi.le.refl _) ?_
      refine xTp 4 RG (fun _ => (qSl (m := 1) (A := Ap) (len := (p).length) (c := cp) 1 (p).length (some 1) none ((List.drop 1 p)).length rfl rfl (by omega) (by omega) hlf6)) ?_
      have ncapf7 := fp.cap
      have f7 : Arr g.r tyU8 (offA Ap cp 9 1) (cp - 9) (List.drop 9 p) := fp.cut_from 9 (by omega)
      have nf7 := f7.len
      have hlf7 : (p).length - 9 = ((List.drop 9 p)).length := by simp only [List.length_take, List.length_drop] <;> omega
      have hvf7 : ((((List.drop 9 p)).length : Nat) : Int) = (((p).length : Nat) : Int) - 9 := by omega
      refine xT 13 [6] [] [some 0] [(0, vs Ap p cp), (2, vp b1 0), (18, vy ((List.getD p 0 0).toNat : Int)), (20, vs (offA Ap cp 1 1) (List.drop 1 p) (cp - 1)), (22, vs Ap p cp)] RG (Psi.le.refl _) ?_
      refine xTp 7 RG (fun _ => (qSl (m := 1) (A := Ap) (len := (p).length) (c := cp) 9 (p).length (some 9) none ((List.drop 9 p)).length rfl rfl (by omega) (by omega) hlf7)) ?_
      have ncapf8 := fp.cap
      have f8 : Arr g.r tyU8 (offA Ap cp 17 1) (cp - 17) (List.drop 17 p) := fp.cut_from 17 (by omega)
      have nf8 := f8.len
      have hlf8 : (p).length - 17 = ((List.drop 17 p)).length := by simp only [List.length_take, List.length_drop] <;> omega
      have hvf8 : ((((List.drop 17 p)).length : Nat) : Int) = (((p).length : Nat) : Int) - 17 := by omega
      refine xT 11 [9] [] [some 0] [(0, vs Ap p cp), (2, vp b1 0), (18, vy ((List.getD p 0 0).toNat : Int)), (20, vs (offA Ap cp 1 1) (List.drop 1 p) (cp - 1)), (23, vs (offA Ap cp 9 1) (List.drop 9 p) (cp - 9)), (25, vs Ap p cp)] RG (Psi.le.refl _) ?_
      refine xTp 10 RG (fun _ => (qSl (m := 1) (A := Ap) (len := (p).length) (c := cp) 17 (p).length (some 17) none ((List.drop 17 p)).length rfl rfl (by omega) (by omega) hlf8)) ?_
      have ncapf9 := fp.cap
      have f9 : Arr g.r tyU8 (offA Ap cp 19 1) (cp - 19) (List.drop 19 p) := fp.cut_from 19 (by omega)
      have nf9 := f9.len
      have hlf9 : (p).length - 19 = ((List.drop 19 p)).length := by simp only [List.length_take, List.length_drop] <;> omega
      have hvf9 : ((((List.drop 19 p)).length : Nat) : Int) = (((p).length : Nat) : Int) - 19 := by omega
      refine xT 9 [13] [] [some 0] [(2, vp b1 0), (18, vy ((List.getD p 0 0).toNat : Int)), (20, vs (offA Ap cp 1 1) (List.drop 1 p) (cp - 1)), (23, vs (offA Ap cp 9 1) (List.drop 9 p) (cp - 9)), (26, vs (offA Ap cp 17 1) (List.drop 17 p) (cp - 17)), (29, vs Ap p cp)] RG (Psi.le.refl _) ?_
      refine xTp 14 RG (fun _ => (qSl (m := 1) (A := Ap) (len := (p).length) (c := cp) 19 (p).length (some 19) none ((List.drop 19 p)).length rfl rfl (by omega) (by omega) hlf9)) ?_
      obtain ⟨y11, hy11, hS⟩ := bindO_T hS
      obtain ⟨y14, hy14, hS⟩ := bindO_T hS
      obtain ⟨y17, hy17, hS⟩ := bindO_T hS
      obtain ⟨y20, hy20, hS⟩ := letJ_T hS
      refine wpa_meet (fun g own sl => ∃ (A20_0 : Option Addr) (c20_0 : Nat) (k20_0 : Option Bk) (b23 : Nat), own = [some ⟨b23, 50, (cHeard (⟨0, 0, (⟨0, 0⟩ : Want), ([] : List UInt8)⟩ : Heard) none 0)⟩, k20_0, some ⟨b1, 50, (cHeard (⟨0, 0, (⟨0, 0⟩ : Want), ([] : List UInt8)⟩ : Heard) none 0)⟩] ∧ sl = [(2, vp b1 0), (4, vp b23 0), (32, Value.agg #[vy ((List.getD p 0 0).toNat : Int), vi y11, vi y14, vi y17, vs A20_0 y20 c20_0])] ∧ Buf g.b tyU8 5 (.slice A20_0 (y20).length c20_0) k20_0 y20) 1 [true, true, true, true, true, true, true, true, true, true, true, true, true, true, true, true, true, true, false] ?_ (fun hD10 => ?_)
      · rintro g211 _ _ e212 ⟨A20_0, c20_0, k20_0, b23, rfl, rfl, h20_0⟩
        have nh20_0 := h20_0.len
        refine xO1 (lds := [2]) 18 ?_
        refine xId (lds := [2]) e212.r (eStL b23 0 0) ?_
        rintro _ _ _ - ⟨rfl, rfl⟩
        refine kf ?_
        refine xAe (lds := [2]) ?_
        refine wpq_then ?_
        refine xSub [(2, vp b1 0), (4, vp b23 0)] ?_
        refine xSq ?_
        refine xSq ?_
        refine xRg ?_
        refine xB 1 [(0, 0)] [(2, vp b1 0), (4, vp b23 0), (34, Value.agg #[vy ((List.getD p 0 0).toNat : Int), vi y11, vi y14, vi y17, vs A20_0 y20 c20_0])] ?_
        refine wpq_freeze 1 (by kernel_rfl) h20_0 (fun g213 e214 f215 => ?_)
        obtain ⟨y216, hy216, hS⟩ := bindO_T hS
        refine xE (eC 0 (fun g' lr eb ln => c25 g' (⟨((List.getD p 0 0).toNat : Int), y11, (⟨y14, y17⟩ : Want), y20⟩ : Heard) A20_0 c20_0 ((f215.mono g213.br).mono lr) hy216)) ?_
        rintro _ g217 _ e218 ⟨_, rfl, A216_0, c216_0, k216_0, rfl, rfl, h216_0⟩
        have nh216_0 := h216_0.len
        refine xB 5 [] [(2, vp b1 0), (4, vp b23 0), (6, vi y216.2)] ?_
        refine xRe ?_
        refine wpq_then ?_
        refine xSq ?_
        refine xRg ?_
        refine xB 2 [] [(2, vp b1 0), (4, vp b23 0), (39, vb (y216.2 != 0))] ?_
        refine xRe ?_
        refine wpq_then ?_
        refine xCd ((y216.2 != 0)) (fun h219 => ?_) (fun h219 => ?_)
        · have hS := cond_T h219 hS
          have h219p : ¬ (y216.2 = 0) := ne_of_bne_ h219
          refine xSq ?_
          refine xRg ?_
          refine xBo 3 [(1, 3)] [k216_0, some ⟨b23, 50, (cHeard (⟨((List.getD p 0 0).toNat : Int), y11, (⟨y14, y17⟩ : Want), y20⟩ : Heard) A20_0 c20_0)⟩, none, some ⟨b1, 50, (cHeard (⟨0, 0, (⟨0, 0⟩ : Want), ([] : List UInt8)⟩ : Heard) none 0)⟩] [(2, vp b1 0), (3, vi 4)] ?_
          refine xRe ?_
          refine wpq_then ?_
          have eS := (Option.some.inj hS).symm
          subst eS
          exact xRetC [] [(2, 3)] (e212.trans (e214.trans e218)) ⟨none, 0, by kernel_rfl, by kernel_rfl, Arr.nil⟩ (fun _ _ h => h)
        · have hS := cond_F h219 hS
          have h219p : y216.2 = 0 := eq_of_bne_false_ h219
          refine xSk ?_
          refine wpq_then ?_
          refine xSub [(2, vp b1 0), (4, vp b23 0)] ?_
          refine xSq ?_
          refine xRg ?_
          refine xBo 3 [(0, 1), (1, 3)] [k216_0, some ⟨b23, 50, (cHeard (⟨((List.getD p 0 0).toNat : Int), y11, (⟨y14, y17⟩ : Want), y20⟩ : Heard) A20_0 c20_0)⟩, none, some ⟨b1, 50, (cHeard (⟨((List.getD p 0 0).toNat : Int), y11, (⟨y14, y17⟩ : Want), y20⟩ : Heard) A20_0 c20_0)⟩] [(2, vp b1 0), (3, vi 0)] ?_
          refine xRe ?_
          refine wpq_then ?_
          have f215 := f215.mono e218.b
          have eS := (Option.some.inj hS).symm
          subst eS
          exact xRetC [] [(2, 3)] (e212.trans (e214.trans e218)) ⟨A20_0, c20_0, by kernel_rfl, by kernel_rfl, f215⟩ (fun _ _ h => h)
      · refine xO2 (lds := [2]) 5 17 ?_ ?_
        · refine xIe (lds := [2]) (Psi.le.refl _) (eC 0 (fun g' lr eb ln => c55 g' ((List.drop 1 p) : List UInt8) (offA Ap cp 1 1) (cp - 1) (8 : Int) (f6.mono lr) hy11)) ?_
          rintro _ g221 _ e222 ⟨_, rfl, rfl, rfl⟩
          refine kk [some 0] ?_
          refine xO2 (lds := [2]) 8 17 ?_ ?_
          · have f7 := f7.mono e222.r
            refine xIe (lds := [2]) e222.r (eC 0 (fun g' lr eb ln => c55 g' ((List.drop 9 p) : List UInt8) (offA Ap cp 9 1) (cp - 9) (8 : Int) (f7.mono lr) hy14)) ?_
            rintro _ g224 _ e225 ⟨_, rfl, rfl, rfl⟩
            refine kk [some 0] ?_
            refine xO2 (lds := [2]) 11 17 ?_ ?_
            · have f8 := f8.mono (e222.trans e225).r
              refine xIe (lds := [2]) (e222.trans e225).r (eC 0 (fun g' lr eb ln => c55 g' ((List.drop 17 p) : List UInt8) (offA Ap cp 17 1) (cp - 17) (2 : Int) (f8.mono lr) hy17)) ?_
              rintro _ g227 _ e228 ⟨_, rfl, rfl, rfl⟩
              refine kk [some 0] ?_
              refine xT 4 [12] [] [some 0] [(2, vp b1 0), (18, vy ((List.getD p 0 0).toNat : Int)), (21, vi y11), (28, Value.agg #[vi y14, vi y17]), (30, vs (offA Ap cp 19 1) (List.drop 19 p) (cp - 19))] RG (e222.trans (e225.trans e228)).r ?_
              refine xO2 (lds := [2]) 15 17 ?_ ?_
              · have f9 := f9.mono (e222.trans (e225.trans e228)).r
                refine xIe (lds := [2]) (e222.trans (e225.trans e228)).r (eC 0 (fun g' lr eb ln => c56 g' ((List.drop 19 p) : List UInt8) (offA Ap cp 19 1) (cp - 19) (f9.mono lr) hy20)) ?_
                rintro _ g230 _ e231 ⟨_, rfl, A20_0, c20_0, k20_0, rfl, rfl, h20_0⟩
                refine kk [some 1] ?_
                have nh20_0 := h20_0.len
                refine xT 2 [16] [] [some 1] [(2, vp b1 0), (32, Value.agg #[vy ((List.getD p 0 0).toNat : Int), vi y11, vi y14, vi y17, vs A20_0 y20 c20_0])] RG (e222.trans (e225.trans (e228.trans e231))).r ?_
                refine xO1 (lds := [2]) 17 ?_
                refine xIe (lds := [2]) (e222.trans (e225.trans (e228.trans e231))).r eB ?_
                rintro _ _ _ - ⟨b232, rfl, rfl, rfl⟩
                refine kk [some 2] ?_
                refine xSub [(2, vp b1 0), (4, vp b232 0), (32, Value.agg #[vy ((List.getD p 0 0).toNat : Int), vi y11, vi y14, vi y17, vs A20_0 y20 c20_0])] ?_
                exact hD10 _ _ _ (e222.trans (e225.trans (e228.trans e231))) ⟨A20_0, c20_0, k20_0, b232, by kernel_rfl, by kernel_rfl, h20_0⟩
              · refine xIe (lds := [2]) (e222.trans (e225.trans e228)).r eB ?_
                rintro _ _ _ - ⟨b233, rfl, rfl, rfl⟩
                refine kk [some 1] ?_
                have f9 := f9.mono (e222.trans (e225.trans e228)).r
                refine xO1 (lds := [2]) 15 ?_
                refine xIe (lds := [2]) (e222.trans (e225.trans e228)).r (eC 0 (fun g' lr eb ln => c56 g' ((List.drop 19 p) : List UInt8) (offA Ap cp 19 1) (cp - 19) (f9.mono lr) hy20)) ?_
                rintro _ g235 _ e236 ⟨_, rfl, A20_0, c20_0, k20_0, rfl, rfl, h20_0⟩
                refine kk [some 2] ?_
                have nh20_0 := h20_0.len
                refine xT 1 [16] [] [some 2] [(2, vp b1 0), (4, vp b233 0), (32, Value.agg #[vy ((List.getD p 0 0).toNat : Int), vi y11, vi y14, vi y17, vs A20_0 y20 c20_0])] RG (e222.trans (e225.trans (e228.trans e236))).r ?_
                refine xSel [some 1, some 0, some 2] ?_
                refine xSub [(2, vp b1 0), (4, vp b233 0), (32, Value.agg #[vy ((List.getD p 0 0).toNat : Int), vi y11, vi y14, vi y17, vs A20_0 y20 c20_0])] ?_
                exact hD10 _ _ _ (e222.trans (e225.trans (e228.trans e236))) ⟨A20_0, c20_0, k20_0, b233, by kernel_rfl, by kernel_rfl, h20_0⟩
            · refine xIe (lds := [2]) (e222.trans e225).r eB ?_
              rintro _ _ _ - ⟨b237, rfl, rfl, rfl⟩
              refine kk [some 1] ?_
              have f8 := f8.mono (e222.trans e225).r
              refine xO1 (lds := [2]) 11 ?_
              refine xIe (lds := [2]) (e222.trans e225).r (eC 0 (fun g' lr eb ln => c55 g' ((List.drop 17 p) : List UInt8) (offA Ap cp 17 1) (cp - 17) (2 : Int) (f8.mono lr) hy17)) ?_
              rintro _ g239 _ e240 ⟨_, rfl, rfl, rfl⟩
              refine kk [some 1] ?_
              refine xT 3 [12] [] [some 1] [(2, vp b1 0), (4, vp b237 0), (18, vy ((List.getD p 0 0).toNat : Int)), (21, vi y11), (28, Value.agg #[vi y14, vi y17]), (30, vs (offA Ap cp 19 1) (List.drop 19 p) (cp - 19))] RG (e222.trans (e225.trans e240)).r ?_
              have f9 := f9.mono (e222.trans (e225.trans e240)).r
              refine xO1 (lds := [2]) 15 ?_
              refine xIe (lds := [2]) (e222.trans (e225.trans e240)).r (eC 0 (fun g' lr eb ln => c56 g' ((List.drop 19 p) : List UInt8) (offA Ap cp 19 1) (cp - 19) (f9.mono lr) hy20)) ?_
              rintro _ g242 _ e243 ⟨_, rfl, A20_0, c20_0, k20_0, rfl, rfl, h20_0⟩
              refine kk [some 2] ?_
              have nh20_0 := h20_0.len
              refine xT 1 [16] [] [some 2] [(2, vp b1 0), (4, vp b237 0), (32, Value.agg #[vy ((List.getD p 0 0).toNat : Int), vi y11, vi y14, vi y17, vs A20_0 y20 c20_0])] RG (e222.trans (e225.trans (e240.trans e243))).r ?_
              refine xSel [some 1, some 0, some 2] ?_
              refine xSub [(2, vp b1 0), (4, vp b237 0), (32, Value.agg #[vy ((List.getD p 0 0).toNat : Int), vi y11, vi y14, vi y17, vs A20_0 y20 c20_0])] ?_
              exact hD10 _ _ _ (e222.trans (e225.trans (e240.trans e243))) ⟨A20_0, c20_0, k20_0, b237, by kernel_rfl, by kernel_rfl, h20_0⟩
          · refine xIe (lds := [2]) e222.r eB ?_
            rintro _ _ _ - ⟨b244, rfl, rfl, rfl⟩
            refine kk [some 1] ?_
            have f7 := f7.mono e222.r
            refine xO1 (lds := [2]) 8 ?_
            refine xIe (lds := [2]) e222.r (eC 0 (fun g' lr eb ln => c55 g' ((List.drop 9 p) : List UInt8) (offA Ap cp 9 1) (cp - 9) (8 : Int) (f7.mono lr) hy14)) ?_
            rintro _ g246 _ e247 ⟨_, rfl, rfl, rfl⟩
            refine kk [some 1] ?_
            have f8 := f8.mono (e222.trans e247).r
            refine xO1 (lds := [2]) 11 ?_
            refine xIe (lds := [2]) (e222.trans e247).r (eC 0 (fun g' lr eb ln => c55 g' ((List.drop 17 p) : List UInt8) (offA Ap cp 17 1) (cp - 17) (2 : Int) (f8.mono lr) hy17)) ?_
            rintro _ g249 _ e250 ⟨_, rfl, rfl, rfl⟩
            refine kk [some 1] ?_
            refine xT 3 [12] [] [some 1] [(2, vp b1 0), (4, vp b244 0), (18, vy ((List.getD p 0 0).toNat : Int)), (21, vi y11), (28, Value.agg #[vi y14, vi y17]), (30, vs (offA Ap cp 19 1) (List.drop 19 p) (cp - 19))] RG (e222.trans (e247.trans e250)).r ?_
            have f9 := f9.mono (e222.trans (e247.trans e250)).r
            refine xO1 (lds := [2]) 15 ?_
            refine xIe (lds := [2]) (e222.trans (e247.trans e250)).r (eC 0 (fun g' lr eb ln => c56 g' ((List.drop 19 p) : List UInt8) (offA Ap cp 19 1) (cp - 19) (f9.mono lr) hy20)) ?_
            rintro _ g252 _ e253 ⟨_, rfl, A20_0, c20_0, k20_0, rfl, rfl, h20_0⟩
            refine kk [some 2] ?_
            have nh20_0 := h20_0.len
            refine xT 1 [16] [] [some 2] [(2, vp b1 0), (4, vp b244 0), (32, Value.agg #[vy ((List.getD p 0 0).toNat : Int), vi y11, vi y14, vi y17, vs A20_0 y20 c20_0])] RG (e222.trans (e247.trans (e250.trans e253))).r ?_
            refine xSel [some 1, some 0, some 2] ?_
            refine xSub [(2, vp b1 0), (4, vp b244 0), (32, Value.agg #[vy ((List.getD p 0 0).toNat : Int), vi y11, vi y14, vi y17, vs A20_0 y20 c20_0])] ?_
            exact hD10 _ _ _ (e222.trans (e247.trans (e250.trans e253))) ⟨A20_0, c20_0, k20_0, b244, by kernel_rfl, by kernel_rfl, h20_0⟩
        · refine xIe (lds := [2]) (Psi.le.refl _) eB ?_
          rintro _ _ _ - ⟨b254, rfl, rfl, rfl⟩
          refine kk [some 1] ?_
          refine xO1 (lds := [2]) 5 ?_
          refine xIe (lds := [2]) (Psi.le.refl _) (eC 0 (fun g' lr eb ln => c55 g' ((List.drop 1 p) : List UInt8) (offA Ap cp 1 1) (cp - 1) (8 : Int) (f6.mono lr) hy11)) ?_
          rintro _ g256 _ e257 ⟨_, rfl, rfl, rfl⟩
          refine kk [some 1] ?_
          have f7 := f7.mono e257.r
          refine xO1 (lds := [2]) 8 ?_
          refine xIe (lds := [2]) e257.r (eC 0 (fun g' lr eb ln => c55 g' ((List.drop 9 p) : List UInt8) (offA Ap cp 9 1) (cp - 9) (8 : Int) (f7.mono lr) hy14)) ?_
          rintro _ g259 _ e260 ⟨_, rfl, rfl, rfl⟩
          refine kk [some 1] ?_
          have f8 := f8.mono (e257.trans e260).r
          refine xO1 (lds := [2]) 11 ?_
          refine xIe (lds := [2]) (e257.trans e260).r (eC 0 (fun g' lr eb ln => c55 g' ((List.drop 17 p) : List UInt8) (offA Ap cp 17 1) (cp - 17) (2 : Int) (f8.mono lr) hy17)) ?_
          rintro _ g262 _ e263 ⟨_, rfl, rfl, rfl⟩
          refine kk [some 1] ?_
          refine xT 3 [12] [] [some 1] [(2, vp b1 0), (4, vp b254 0), (18, vy ((List.getD p 0 0).toNat : Int)), (21, vi y11), (28, Value.agg #[vi y14, vi y17]), (30, vs (offA Ap cp 19 1) (List.drop 19 p) (cp - 19))] RG (e257.trans (e260.trans e263)).r ?_
          have f9 := f9.mono (e257.trans (e260.trans e263)).r
          refine xO1 (lds := [2]) 15 ?_
          refine xIe (lds := [2]) (e257.trans (e260.trans e263)).r (eC 0 (fun g' lr eb ln => c56 g' ((List.drop 19 p) : List UInt8) (offA Ap cp 19 1) (cp - 19) (f9.mono lr) hy20)) ?_
          rintro _ g265 _ e266 ⟨_, rfl, A20_0, c20_0, k20_0, rfl, rfl, h20_0⟩
          refine kk [some 2] ?_
          have nh20_0 := h20_0.len
          refine xT 1 [16] [] [some 2] [(2, vp b1 0), (4, vp b254 0), (32, Value.agg #[vy ((List.getD p 0 0).toNat : Int), vi y11, vi y14, vi y17, vs A20_0 y20 c20_0])] RG (e257.trans (e260.trans (e263.trans e266))).r ?_
          refine xSel [some 1, some 0, some 2] ?_
          refine xSub [(2, vp b1 0), (4, vp b254 0), (32, Value.agg #[vy ((List.getD p 0 0).toNat : Int), vi y11, vi y14, vi y17, vs A20_0 y20 c20_0])] ?_
          exact hD10 _ _ _ (e257.trans (e260.trans (e263.trans e266))) ⟨A20_0, c20_0, k20_0, b254, by kernel_rfl, by kernel_rfl, h20_0⟩

def o68 (n : Node) : Node :=
  (({ n with role := 1, steps := 0 }))
set_option maxRecDepth 100000 in
theorem c68 (g : Gh) (b_n : Nat) (n : Node) (An_input : Option Addr) (cn_input : Nat) (An_heard_input : Option Addr) (cn_heard_input : Nat) (An_set__in_ : Option Addr) (cn_set__in_ : Nat) (fn_input : Arr g.b tyU8 An_input cn_input n.input) (fn_heard_input : Arr g.b tyU8 An_heard_input cn_heard_input n.heard.input) (fn_set__in_ : Arr g.b tyU8 An_set__in_ cn_set__in_ n.set_.in_) {r : Node} (hS : o68 n = r) :
    Ctr Try.prog 68 [vp b_n 0] g [some ⟨b_n, 131, (cNode n An_input cn_input An_heard_input cn_heard_input An_set__in_ cn_set__in_)⟩] (fun v ψ o => ∃ (Ao_n_input : Option Addr) (co_n_input : Nat) (Ao_n_heard_input : Option Addr) (co_n_heard_input : Nat) (Ao_n_set__in_ : Option Addr) (co_n_set__in_ : Nat), v = Value.tuple #[] ∧ o = [some ⟨b_n, 131, (cNode r Ao_n_input co_n_input Ao_n_heard_input co_n_heard_input Ao_n_set__in_ co_n_set__in_)⟩] ∧ Arr ψ tyU8 Ao_n_input co_n_input r.input ∧ Arr ψ tyU8 Ao_n_heard_input co_n_heard_input r.heard.input ∧ Arr ψ tyU8 Ao_n_set__in_ co_n_set__in_ r.set_.in_) := by
  unfold o68 at hS
  refine xFn Try.f68 (Try.f68.body.getD .skip) 8 ?_
  have nfn_input := fn_input.len
  have nfn_heard_input := fn_heard_input.len
  have nfn_set__in_ := fn_set__in_.len
  refine xRg ?_
  refine xBo 8 [(4, 0), (7, 0)] [some ⟨b_n, 131, (cNode ({ n with role := 1, steps := 0 }) An_input cn_input An_heard_input cn_heard_input An_set__in_ cn_set__in_)⟩] [] ?_
  refine xRe ?_
  have eS := hS.symm
  subst eS
  exact xFin [some 0] [] (Gh.le.refl _) ⟨An_input, cn_input, An_heard_input, cn_heard_input, An_set__in_, cn_set__in_, by kernel_rfl, by kernel_rfl, fn_input, fn_heard_input, fn_set__in_⟩

def o47 (n : Node) (f : Frame) (came : Bool) : Option (Node × Heard × Bool × Int) :=
  (letJ (τ := Int) (o69 n (1 : Int)) fun y3 => (cond ((y3 != 0)) (some ((n, (⟨0, 0, (⟨0, 0⟩ : Want), ([] : List UInt8)⟩ : Heard), (false), (y3 : Int)))) (letJ (τ := Bool) (o71 n f (came) (1 : Int)) fun y7 => (bindO (τ := Heard × Bool) (cond (y7) (bindO (τ := Heard × Int) (o28 (f.payload : List UInt8)) fun y40 => (some (((y40.1 : Heard), (y40.2 == 0))))) (some (((n.heard : Heard), n.is_)))) fun t10 => (letJ (τ := Int × Heard) (cond (t10.2) ((0, (t10.1 : Heard))) (((IntKind.i64.wrap (n.alone + 1)), ((⟨0, 0, (⟨0, 0⟩ : Want), ([] : List UInt8)⟩ : Heard) : Heard)))) fun t13 => (letJ (τ := Int) (o19 (n.number : Int) (n.role : Int) (n.steps : Int) (t13.1 : Int) (t10.2) (t13.2.role : Int) (t13.2.steps : Int)) fun y16 => (letJ (τ := Node) (cond ((y16 == 1)) (letJ (τ := Node) (o68 ({ n with role := y16, alone := t13.1, next_ := 2, heard := t13.2, is_ := t10.2 })) fun y35 => ((y35 : Node))) ((({ n with role := y16, alone := t13.1, next_ := 2, heard := t13.2, is_ := t10.2 }) : Node))) fun t19 => (letJ (τ := Int) (cond (((n.role == 1) && (t19.role == 2))) (0) (t19.steps)) fun t23 => (letJ (τ := (List UInt8)) (o56 (t19.heard.input : List UInt8)) fun y27 => (some ((({ t19 with steps := t23, fresh := ((n.role == 1) && (t19.role == 2)) }), ({ t19.heard with input := y27 }), (t19.is_), (0 : Int)))))))))))))
set_option maxRecDepth 100000 in
theorem c47 (g : Gh) (b_n : Nat) (n : Node) (An_input : Option Addr) (cn_input : Nat) (An_heard_input : Option Addr) (cn_heard_input : Nat) (An_set__in_ : Option Addr) (cn_set__in_ : Nat) (f : Frame) (Af_payload : Option Addr) (cf_payload : Nat) (came : Bool) (fn_input : Arr g.b tyU8 An_input cn_input n.input) (fn_heard_input : Arr g.b tyU8 An_heard_input cn_heard_input n.heard.input) (fn_set__in_ : Arr g.b tyU8 An_set__in_ cn_set__in_ n.set_.in_) (ff_payload : Arr g.r tyU8 Af_payload cf_payload f.payload) {r : Node × Heard × Bool × Int} (hS : o47 n f came = some r) :
    Ctr Try.prog 47 [vp b_n 0, Value.agg #[vy f.label, vy f.from_, vi f.cycle, vs Af_payload f.payload cf_payload], vb came] g [some ⟨b_n, 131, (cNode n An_input cn_input An_heard_input cn_heard_input An_set__in_ cn_set__in_)⟩] (fun v ψ o => ∃ (Ao_n_input : Option Addr) (co_n_input : Nat) (Ao_n_heard_input : Option Addr) (co_n_heard_input : Nat) (Ao_n_set__in_ : Option Addr) (co_n_set__in_ : Nat) (Ar_0_input : Option Addr) (cr_0_input : Nat), v = Value.tuple #[Value.agg #[vy r.2.1.role, vi r.2.1.steps, vi r.2.1.want.base, vi r.2.1.want.have_, vs Ar_0_input r.2.1.input cr_0_input], vb r.2.2.1, vi r.2.2.2] ∧ o = [some ⟨b_n, 131, (cNode r.1 Ao_n_input co_n_input Ao_n_heard_input co_n_heard_input Ao_n_set__in_ co_n_set__in_)⟩] ∧ Arr ψ tyU8 Ao_n_input co_n_input r.1.input ∧ Arr ψ tyU8 Ao_n_heard_input co_n_heard_input r.1.heard.input ∧ Arr ψ tyU8 Ao_n_set__in_ co_n_set__in_ r.1.set_.in_ ∧ Arr ψ tyU8 Ar_0_input cr_0_input r.2.1.input) := by
  unfold o47 at hS
  refine xFn Try.f47 (Try.f47.body.getD .skip) 134 ?_
  have nfn_input := fn_input.len
  have nfn_heard_input := fn_heard_input.len
  have nfn_set__in_ := fn_set__in_.len
  have nff_payload := ff_payload.len
  refine xSq ?_
  refine xRg ?_
  refine xE eB ?_
  rintro _ _ _ - ⟨b1, rfl, rfl, rfl⟩
  refine xE eB ?_
  rintro _ _ _ - ⟨b2, rfl, rfl, rfl⟩
  refine xB 2 [] [(0, vp b_n 0), (2, vb came), (4, vp b1 0), (6, vp b2 0)] ?_
  refine xRe ?_
  refine wpq_then ?_
  refine xSq ?_
  refine xSq ?_
  refine xRg ?_
  refine xB 1 [] [(0, vp b_n 0), (2, vb came), (4, vp b1 0), (6, vp b2 0), (14, vp b_n 0)] ?_
  obtain ⟨y3, hy3, hS⟩ := letJ_T hS
  refine xE (eC 0 (fun g' lr eb ln => c69 g' ⟨b_n, 0, none⟩ n An_input cn_input An_heard_input cn_heard_input An_set__in_ cn_set__in_ (1 : Int) (cells_lent' 2 b_n 0 (cNode n An_input cn_input An_heard_input cn_heard_input An_set__in_ cn_set__in_) ln) ((fn_input.mono g.br).mono lr) ((fn_heard_input.mono g.br).mono lr) ((fn_set__in_.mono g.br).mono lr) hy3)) ?_
  rintro _ g4 _ e5 ⟨_, rfl, rfl, rfl⟩
  refine xB 1 [] [(0, vp b_n 0), (2, vb came), (4, vp b1 0), (6, vp b2 0), (9, vi y3)] ?_
  refine xRe ?_
  refine wpq_then ?_
  refine xSq ?_
  refine xRg ?_
  refine xB 2 [] [(0, vp b_n 0), (2, vb came), (4, vp b1 0), (6, vp b2 0), (9, vi y3), (17, vb (y3 != 0))] ?_
  refine xRe ?_
  refine wpq_then ?_
  refine xCd ((y3 != 0)) (fun h6 => ?_) (fun h6 => ?_)
  · have hS := cond_T h6 hS
    have h6p : ¬ (y3 = 0) := ne_of_bne_ h6
    refine xSq ?_
    refine xRg ?_
    refine xBo 5 [(2, 0)] [some ⟨b2, 50, (cHeard (⟨0, 0, (⟨0, 0⟩ : Want), ([] : List UInt8)⟩ : Heard) none 0)⟩, some ⟨b1, 100, (cFrame f Af_payload cf_payload)⟩, some ⟨b_n, 131, (cNode n An_input cn_input An_heard_input cn_heard_input An_set__in_ cn_set__in_)⟩] [(6, vp b2 0), (7, vb false), (8, vi y3)] ?_
    refine xRe ?_
    refine wpq_then ?_
    have fn_input := fn_input.mono e5.b
    have fn_heard_input := fn_heard_input.mono e5.b
    have fn_set__in_ := fn_set__in_.mono e5.b
    have eS := (Option.some.inj hS).symm
    subst eS
    exact xRetC [some 2] [(6, 0)] e5 ⟨An_input, cn_input, An_heard_input, cn_heard_input, An_set__in_, cn_set__in_, none, 0, by kernel_rfl, by kernel_rfl, fn_input, fn_heard_input, fn_set__in_, Arr.nil⟩ (fun _ _ h => h)
  · have hS := cond_F h6 hS
    have h6p : y3 = 0 := eq_of_bne_false_ h6
    refine xSk ?_
    refine wpq_then ?_
    refine xSub [(0, vp b_n 0), (2, vb came), (4, vp b1 0), (6, vp b2 0)] ?_
    refine xSq ?_
    refine xSq ?_
    refine xRg ?_
    refine xB 3 [(1, 1)] [(0, vp b_n 0), (4, vp b1 0), (6, vp b2 0), (20, vp b_n 0), (21, Value.agg #[vy f.label, vy f.from_, vi f.cycle, vs Af_payload f.payload cf_payload]), (22, vb came)] ?_
    have fn_input := fn_input.mono e5.b
    have fn_heard_input := fn_heard_input.mono e5.b
    have fn_set__in_ := fn_set__in_.mono e5.b
    have ff_payload := ff_payload.mono e5.r
    obtain ⟨y7, hy7, hS⟩ := letJ_T hS
    refine xE (eC 0 (fun g' lr eb ln => c71 g' ⟨b_n, 0, none⟩ n An_input cn_input An_heard_input cn_heard_input An_set__in_ cn_set__in_ f Af_payload cf_payload (came) (1 : Int) (cells_lent' 2 b_n 0 (cNode n An_input cn_input An_heard_input cn_heard_input An_set__in_ cn_set__in_) ln) ((fn_input.mono g4.br).mono lr) ((fn_heard_input.mono g4.br).mono lr) ((fn_set__in_.mono g4.br).mono lr) (ff_payload.mono lr) hy7)) ?_
    rintro _ g8 _ e9 ⟨_, rfl, rfl, rfl⟩
    refine xRe ?_
    refine wpq_then ?_
    refine xSub [(0, vp b_n 0), (4, vp b1 0), (6, vp b2 0), (23, vb y7)] ?_
    refine xBindO hS (fun g own sl t10 => ∃ (A10_0_input : Option Addr) (c10_0_input : Nat), own = [some ⟨b2, 50, (cHeard (⟨0, 0, (⟨0, 0⟩ : Want), ([] : List UInt8)⟩ : Heard) none 0)⟩, some ⟨b_n, 131, (cNode ({ n with heard := t10.1, is_ := t10.2 }) An_input cn_input A10_0_input c10_0_input An_set__in_ cn_set__in_)⟩] ∧ sl = [(0, vp b_n 0), (6, vp b2 0)] ∧ Arr g.b tyU8 A10_0_input c10_0_input t10.1.input) ?_ ?_
    · rintro g11 _ _ t10 e12 ⟨A10_0_input, c10_0_input, rfl, rfl, f10_0_input⟩ hS
      have nf10_0_input := f10_0_input.len
      refine wpq_then ?_
      refine xSq ?_
      refine xRg ?_
      refine xBo 4 [(3, 1)] [some ⟨b2, 50, (cHeard (⟨0, 0, (⟨0, 0⟩ : Want), ([] : List UInt8)⟩ : Heard) none 0)⟩, some ⟨b_n, 131, (cNode ({ n with next_ := 2, heard := t10.1, is_ := t10.2 }) An_input cn_input A10_0_input c10_0_input An_set__in_ cn_set__in_)⟩] [(0, vp b_n 0), (6, vp b2 0)] ?_
      refine xRe ?_
      refine wpq_then ?_
      refine xSq ?_
      refine xSq ?_
      refine xRg ?_
      refine xB 4 [(3, 1)] [(0, vp b_n 0), (6, vp b2 0), (45, vb t10.2)] ?_
      refine xRe ?_
      refine wpq_then ?_
      refine xLetJ hS (fun g own sl t13 => ∃ (A13_1_input : Option Addr) (c13_1_input : Nat), own = [some ⟨b2, 50, (cHeard (⟨0, 0, (⟨0, 0⟩ : Want), ([] : List UInt8)⟩ : Heard) none 0)⟩, some ⟨b_n, 131, (cNode ({ n with alone := t13.1, next_ := 2, heard := t13.2, is_ := t10.2 }) An_input cn_input A13_1_input c13_1_input An_set__in_ cn_set__in_)⟩] ∧ sl = [(0, vp b_n 0), (6, vp b2 0)] ∧ Arr g.b tyU8 A13_1_input c13_1_input t13.2.input) ?_ ?_
      · rintro g14 _ _ t13 e15 ⟨A13_1_input, c13_1_input, rfl, rfl, f13_1_input⟩ hS
        have nf13_1_input := f13_1_input.len
        refine wpq_then ?_
        refine xSq ?_
        refine xRg ?_
        refine xB 5 [(3, 1)] [(0, vp b_n 0), (6, vp b2 0), (12, vy n.role)] ?_
        refine xRe ?_
        refine wpq_then ?_
        refine xSq ?_
        refine xDr 0 [4, 9, 13, 17, 22, 27] [31, 29, 30] [some ⟨b2, 50, (cHeard (⟨0, 0, (⟨0, 0⟩ : Want), ([] : List UInt8)⟩ : Heard) none 0)⟩, some ⟨b_n, 131, (cNode ({ n with alone := t13.1, next_ := 2, heard := t13.2, is_ := t10.2 }) An_input cn_input A13_1_input c13_1_input An_set__in_ cn_set__in_)⟩] 32 (fun RG => ?_) (fun _ _ _ _ _ h => h)
        refine xT 4 [0, 1, 2, 3, 4, 5, 6, 7, 8, 9, 10, 11, 12, 13, 14, 15, 16, 17, 18, 19, 20, 21, 22, 23, 24, 25, 26, 27] [(4, 1), (9, 1), (13, 1), (17, 1), (22, 1), (27, 1)] [some 0, some 1] [(0, vp b_n 0), (6, vp b2 0), (12, vy n.role), (64, vp b_n 0), (68, vi n.number), (69, vy n.role), (73, vi n.steps), (77, vi t13.1), (81, vb t10.2), (86, vy t13.2.role), (91, vi t13.2.steps)] RG (Psi.le.refl _) ?_
        obtain ⟨y16, hy16, hS⟩ := letJ_T hS
        refine xO1 (lds := [4, 9, 13, 17, 22, 27]) 28 ?_
        refine xIe (lds := [4, 9, 13, 17, 22, 27]) (Psi.le.refl _) (eC 0 (fun g' lr eb ln => c19 g' (n.number : Int) (n.role : Int) (n.steps : Int) (t13.1 : Int) (t10.2) (t13.2.role : Int) (t13.2.steps : Int) hy16)) ?_
        rintro _ g17 _ e18 ⟨_, rfl, rfl, rfl⟩
        refine kk [some 0, some 1] ?_
        refine xT 1 [29, 30] [] [some 0, some 1] [(0, vp b_n 0), (6, vp b2 0), (12, vy n.role), (92, vy y16), (94, vp b_n 1)] RG e18.r ?_
        refine xO1 (lds := [4, 9, 13, 17, 22, 27]) 31 ?_
        refine xId (lds := [4, 9, 13, 17, 22, 27]) e18.r (eStL b_n 1 1) ?_
        rintro _ _ _ - ⟨rfl, rfl⟩
        refine kf ?_
        refine xAe (lds := [4, 9, 13, 17, 22, 27]) ?_
        refine wpq_then ?_
        refine xSub [(0, vp b_n 0), (6, vp b2 0), (12, vy n.role)] ?_
        refine xSq ?_
        refine xSq ?_
        refine xRg ?_
        refine xB 5 [(3, 1)] [(0, vp b_n 0), (6, vp b2 0), (12, vy n.role), (99, vb (y16 == 1))] ?_
        refine xRe ?_
        refine wpq_then ?_
        refine xLetJ hS (fun g own sl t19 => ∃ (A19_0_input : Option Addr) (c19_0_input : Nat) (A19_0_heard_input : Option Addr) (c19_0_heard_input : Nat) (A19_0_set__in_ : Option Addr) (c19_0_set__in_ : Nat), own = [some ⟨b_n, 131, (cNode t19 A19_0_input c19_0_input A19_0_heard_input c19_0_heard_input A19_0_set__in_ c19_0_set__in_)⟩, some ⟨b2, 50, (cHeard (⟨0, 0, (⟨0, 0⟩ : Want), ([] : List UInt8)⟩ : Heard) none 0)⟩] ∧ sl = [(0, vp b_n 0), (6, vp b2 0), (12, vy n.role)] ∧ Arr g.b tyU8 A19_0_input c19_0_input t19.input ∧ Arr g.b tyU8 A19_0_heard_input c19_0_heard_input t19.heard.input ∧ Arr g.b tyU8 A19_0_set__in_ c19_0_set__in_ t19.set_.in_) ?_ ?_
        · rintro g20 _ _ t19 e21 ⟨A19_0_input, c19_0_input, A19_0_heard_input, c19_0_heard_input, A19_0_set__in_, c19_0_set__in_, rfl, rfl, f19_0_input, f19_0_heard_input, f19_0_set__in_⟩ hS
          have nf19_0_input := f19_0_input.len
          have nf19_0_heard_input := f19_0_heard_input.len
          have nf19_0_set__in_ := f19_0_set__in_.len
          refine wpq_then ?_
          refine xSq ?_
          refine xRg ?_
          refine xB 4 [] [(0, vp b_n 0), (6, vp b2 0), (102, vp b_n 0), (105, vb (n.role == 1))] ?_
          refine wpr_grp 10 [(0, vp b_n 0), (6, vp b2 0), (102, vp b_n 0), (111, vb ((n.role == 1) && (t19.role == 2)))] (fun hk3 => ?_) ?_
          · refine wpq_split 105 (b := (n.role == 1)) (by kernel_rfl) (fun q22 => ?_) (fun q22 => ?_)
            · have q22p : n.role = 1 := eq_of_beq q22
              refine xB 6 [(7, 0)] [(0, vp b_n 0), (6, vp b2 0), (102, vp b_n 0), (111, vb (t19.role == 2))] ?_
              refine wpq_re 111 (v := vb (t19.role == 2)) (Value.bool (((n.role == 1) && (t19.role == 2)))) (by kernel_rfl) (re_and1 q22) ?_
              exact wpq_sub _ (by kernel_rfl) hk3
            · have q22p : ¬ (n.role = 1) := ne_of_beq_false_ q22
              refine xB 6 [] [(0, vp b_n 0), (6, vp b2 0), (102, vp b_n 0), (111, vb false)] ?_
              refine wpq_re 111 (v := vb false) (Value.bool (((n.role == 1) && (t19.role == 2)))) (by kernel_rfl) (re_and0 q22) ?_
              exact wpq_sub _ (by kernel_rfl) hk3
          · refine xBo 3 [(12, 0)] [some ⟨b_n, 131, (cNode ({ t19 with fresh := ((n.role == 1) && (t19.role == 2)) }) A19_0_input c19_0_input A19_0_heard_input c19_0_heard_input A19_0_set__in_ c19_0_set__in_)⟩, some ⟨b2, 50, (cHeard (⟨0, 0, (⟨0, 0⟩ : Want), ([] : List UInt8)⟩ : Heard) none 0)⟩] [(0, vp b_n 0), (6, vp b2 0)] ?_
            refine xRe ?_
            refine wpq_then ?_
            refine xSq ?_
            refine xSq ?_
            refine xRg ?_
            refine xB 4 [(3, 0)] [(0, vp b_n 0), (6, vp b2 0), (117, vb ((n.role == 1) && (t19.role == 2)))] ?_
            refine xRe ?_
            refine wpq_then ?_
            refine xLetJ hS (fun g own sl t23 => own = [some ⟨b_n, 131, (cNode ({ t19 with steps := t23, fresh := ((n.role == 1) && (t19.role == 2)) }) A19_0_input c19_0_input A19_0_heard_input c19_0_heard_input A19_0_set__in_ c19_0_set__in_)⟩, some ⟨b2, 50, (cHeard (⟨0, 0, (⟨0, 0⟩ : Want), ([] : List UInt8)⟩ : Heard) none 0)⟩] ∧ sl = [(0, vp b_n 0), (6, vp b2 0)]) ?_ ?_
            · rintro g24 _ _ t23 e25 ⟨rfl, rfl⟩ hS
              refine wpq_then ?_
              refine xSq ?_
              refine xRg ?_
              refine xB 4 [(3, 0)] [(0, vp b_n 0), (6, vp b2 0), (124, Value.agg #[vy t19.heard.role, vi t19.heard.steps, vi t19.heard.want.base, vi t19.heard.want.have_, vs A19_0_heard_input t19.heard.input c19_0_heard_input])] ?_
              refine xE eB ?_
              rintro _ _ _ - ⟨b26, rfl, rfl, rfl⟩
              refine xBo 1 [(5, 0)] [some ⟨b26, 50, (cHeard t19.heard A19_0_heard_input c19_0_heard_input)⟩, some ⟨b_n, 131, (cNode ({ t19 with steps := t23, fresh := ((n.role == 1) && (t19.role == 2)) }) A19_0_input c19_0_input A19_0_heard_input c19_0_heard_input A19_0_set__in_ c19_0_set__in_)⟩, some ⟨b2, 50, (cHeard (⟨0, 0, (⟨0, 0⟩ : Want), ([] : List UInt8)⟩ : Heard) none 0)⟩] [(0, vp b_n 0), (6, vp b2 0), (13, vp b26 0)] ?_
              refine xRe ?_
              refine wpq_then ?_
              refine xSq ?_
              refine xRg ?_
              refine xB 2 [(1, 0)] [(0, vp b_n 0), (6, vp b2 0), (13, vp b26 0), (126, vs A19_0_heard_input t19.heard.input c19_0_heard_input)] ?_
              have f19_0_heard_input := f19_0_heard_input.mono e25.b
              obtain ⟨y27, hy27, hS⟩ := letJ_T hS
              refine xE (eC 0 (fun g' lr eb ln => c56 g' (t19.heard.input : List UInt8) A19_0_heard_input c19_0_heard_input ((f19_0_heard_input.mono g24.br).mono lr) hy27)) ?_
              rintro _ g28 _ e29 ⟨_, rfl, A27_0, c27_0, k27_0, rfl, rfl, h27_0⟩
              have nh27_0 := h27_0.len
              refine xBo 2 [(4, 1)] [k27_0, some ⟨b26, 50, (cHeard ({ t19.heard with input := y27 }) A27_0 c27_0)⟩, some ⟨b_n, 131, (cNode ({ t19 with steps := t23, fresh := ((n.role == 1) && (t19.role == 2)) }) A19_0_input c19_0_input A19_0_heard_input c19_0_heard_input A19_0_set__in_ c19_0_set__in_)⟩, some ⟨b2, 50, (cHeard (⟨0, 0, (⟨0, 0⟩ : Want), ([] : List UInt8)⟩ : Heard) none 0)⟩] [(0, vp b_n 0), (6, vp b2 0), (13, vp b26 0)] ?_
              refine xRe ?_
              refine wpq_then ?_
              refine xSq ?_
              refine xDr 0 [0, 4] [6, 7] [some ⟨b26, 50, (cHeard ({ t19.heard with input := y27 }) A27_0 c27_0)⟩, some ⟨b_n, 131, (cNode ({ t19 with steps := t23, fresh := ((n.role == 1) && (t19.role == 2)) }) A19_0_input c19_0_input A19_0_heard_input c19_0_heard_input A19_0_set__in_ c19_0_set__in_)⟩] 8 (fun RG => ?_) (fun _ _ _ _ _ h => h)
              refine xT 3 [0, 1, 2, 3, 4] [(0, 0), (4, 1)] [some 1, some 2] [(6, vp b2 0), (129, Value.agg #[vy t19.heard.role, vi t19.heard.steps, vi t19.heard.want.base, vi t19.heard.want.have_, vs A27_0 y27 c27_0]), (133, vb t19.is_)] RG (Psi.le.refl _) ?_
              refine xO1 (lds := [0, 4]) 5 ?_
              refine xId (lds := [0, 4]) (Psi.le.refl _) (eStL b2 0 3) ?_
              rintro _ _ _ - ⟨rfl, rfl⟩
              refine kk [some 1, some 2] ?_
              refine xT 0 [6, 7] [] [some 1, some 2] [(6, vp b2 0), (7, vb t19.is_), (8, vi 0)] RG (Psi.le.refl _) ?_
              refine xAe (lds := [0, 4]) ?_
              refine wpq_then ?_
              refine wpq_freeze 0 (by kernel_rfl) h27_0 (fun g30 e31 f32 => ?_)
              have f19_0_input := f19_0_input.mono (e25.trans (e29.trans e31)).b
              have f19_0_heard_input := f19_0_heard_input.mono (e29.trans e31).b
              have f19_0_set__in_ := f19_0_set__in_.mono (e25.trans (e29.trans e31)).b
              have eS := (Option.some.inj hS).symm
              subst eS
              exact xRetC [some 2] [(6, 3)] (e5.trans (e9.trans (e12.trans (e15.trans (e18.trans (e21.trans (e25.trans (e29.trans e31)))))))) ⟨A19_0_input, c19_0_input, A19_0_heard_input, c19_0_heard_input, A19_0_set__in_, c19_0_set__in_, A27_0, c27_0, by kernel_rfl, by kernel_rfl, f19_0_input, f19_0_heard_input, f19_0_set__in_, f32⟩ (fun _ _ h => h)
            · intro u23 hS hN23
              refine xCd (((n.role == 1) && (t19.role == 2))) (fun h33 => ?_) (fun h33 => ?_)
              · have hS := cond_T h33 hS
                have h33l := (and_true_ h33).1
                have h33r := (and_true_ h33).2
                have h33lp : n.role = 1 := eq_of_beq h33l
                have h33rp : t19.role = 2 := eq_of_beq h33r
                refine xRg ?_
                refine xBo 4 [(3, 0)] [some ⟨b_n, 131, (cNode ({ t19 with steps := 0, fresh := ((n.role == 1) && (t19.role == 2)) }) A19_0_input c19_0_input A19_0_heard_input c19_0_heard_input A19_0_set__in_ c19_0_set__in_)⟩, some ⟨b2, 50, (cHeard (⟨0, 0, (⟨0, 0⟩ : Want), ([] : List UInt8)⟩ : Heard) none 0)⟩] [(0, vp b_n 0), (6, vp b2 0)] ?_
                refine xRe ?_
                refine xSub [(0, vp b_n 0), (6, vp b2 0)] ?_
                have eS := hS.symm
                exact hN23 _ eS _ _ _ (Gh.le.refl _) ⟨by kernel_rfl, by kernel_rfl⟩
              · have hS := cond_F h33 hS
                refine xSk ?_
                refine xSub [(0, vp b_n 0), (6, vp b2 0)] ?_
                have eS := hS.symm
                exact hN23 _ eS _ _ _ (Gh.le.refl _) ⟨by kernel_rfl, by kernel_rfl⟩
        · intro u19 hS hN19
          refine xCd ((y16 == 1)) (fun h34 => ?_) (fun h34 => ?_)
          · have hS := cond_T h34 hS
            have h34p : y16 = 1 := eq_of_beq h34
            refine xRg ?_
            refine xB 1 [] [(0, vp b_n 0), (6, vp b2 0), (12, vy n.role), (100, vp b_n 0)] ?_
            refine xSel [some 1, some 0] ?_
            have fn_input := fn_input.mono (e9.trans (e12.trans (e15.trans e18))).b
            have f13_1_input := f13_1_input.mono e18.b
            have fn_set__in_ := fn_set__in_.mono (e9.trans (e12.trans (e15.trans e18))).b
            obtain ⟨y35, hy35, hS⟩ := letJ_T hS
            refine xE (eC 1 (fun g' lr eb ln => c68 g' b_n ({ n with role := y16, alone := t13.1, next_ := 2, heard := t13.2, is_ := t10.2 }) An_input cn_input A13_1_input c13_1_input An_set__in_ cn_set__in_ (by rw [eb]; exact fn_input) (by rw [eb]; exact f13_1_input) (by rw [eb]; exact fn_set__in_) hy35)) ?_
            rintro _ g36 _ e37 ⟨_, rfl, A35_n_input, c35_n_input, A35_n_heard_input, c35_n_heard_input, A35_n_set__in_, c35_n_set__in_, rfl, rfl, f35_n_input, f35_n_heard_input, f35_n_set__in_⟩
            have nf35_n_input := f35_n_input.len
            have nf35_n_heard_input := f35_n_heard_input.len
            have nf35_n_set__in_ := f35_n_set__in_.len
            refine xRe ?_
            refine xSub [(0, vp b_n 0), (6, vp b2 0), (12, vy n.role)] ?_
            have eS := hS.symm
            exact hN19 _ eS _ _ _ e37 ⟨A35_n_input, c35_n_input, A35_n_heard_input, c35_n_heard_input, A35_n_set__in_, c35_n_set__in_, by kernel_rfl, by kernel_rfl, f35_n_input, f35_n_heard_input, f35_n_set__in_⟩
          · have hS := cond_F h34 hS
            have h34p : ¬ (y16 = 1) := ne_of_beq_false_ h34
            refine xSk ?_
            have fn_input := fn_input.mono (e9.trans (e12.trans (e15.trans e18))).b
            have f13_1_input := f13_1_input.mono e18.b
            have fn_set__in_ := fn_set__in_.mono (e9.trans (e12.trans (e15.trans e18))).b
            refine xSel [some 1, some 0] ?_
            refine xSub [(0, vp b_n 0), (6, vp b2 0), (12, vy n.role)] ?_
            have eS := hS.symm
            exact hN19 _ eS _ _ _ (Gh.le.refl _) ⟨An_input, cn_input, A13_1_input, c13_1_input, An_set__in_, cn_set__in_, by kernel_rfl, by kernel_rfl, fn_input, f13_1_input, fn_set__in_⟩
      · intro u13 hS hN13
        refine xCd (t10.2) (fun h38 => ?_) (fun h38 => ?_)
        · have hS := cond_T h38 hS
          refine xRg ?_
          refine xBo 4 [(3, 1)] [some ⟨b2, 50, (cHeard (⟨0, 0, (⟨0, 0⟩ : Want), ([] : List UInt8)⟩ : Heard) none 0)⟩, some ⟨b_n, 131, (cNode ({ n with alone := 0, next_ := 2, heard := t10.1, is_ := t10.2 }) An_input cn_input A10_0_input c10_0_input An_set__in_ cn_set__in_)⟩] [(0, vp b_n 0), (6, vp b2 0)] ?_
          refine xRe ?_
          refine xSub [(0, vp b_n 0), (6, vp b2 0)] ?_
          have eS := hS.symm
          exact hN13 _ eS _ _ _ (Gh.le.refl _) ⟨A10_0_input, c10_0_input, by kernel_rfl, by kernel_rfl, f10_0_input⟩
        · have hS := cond_F h38 hS
          refine xSq ?_
          refine xRg ?_
          refine xBo 5 [(4, 1)] [some ⟨b2, 50, (cHeard (⟨0, 0, (⟨0, 0⟩ : Want), ([] : List UInt8)⟩ : Heard) none 0)⟩, some ⟨b_n, 131, (cNode ({ n with next_ := 2, heard := (⟨0, 0, (⟨0, 0⟩ : Want), ([] : List UInt8)⟩ : Heard), is_ := t10.2 }) An_input cn_input none 0 An_set__in_ cn_set__in_)⟩] [(0, vp b_n 0), (6, vp b2 0)] ?_
          refine xRe ?_
          refine wpq_then ?_
          refine xRg ?_
          refine xBo 8 [(3, 1), (7, 1)] [some ⟨b2, 50, (cHeard (⟨0, 0, (⟨0, 0⟩ : Want), ([] : List UInt8)⟩ : Heard) none 0)⟩, some ⟨b_n, 131, (cNode ({ n with alone := (IntKind.i64.wrap (n.alone + 1)), next_ := 2, heard := (⟨0, 0, (⟨0, 0⟩ : Want), ([] : List UInt8)⟩ : Heard), is_ := t10.2 }) An_input cn_input none 0 An_set__in_ cn_set__in_)⟩] [(0, vp b_n 0), (6, vp b2 0)] ?_
          refine xRe ?_
          refine xSub [(0, vp b_n 0), (6, vp b2 0)] ?_
          have eS := hS.symm
          exact hN13 _ eS _ _ _ (Gh.le.refl _) ⟨none, 0, by kernel_rfl, by kernel_rfl, Arr.nil⟩
    · intro u10 hS hN10
      refine xCd (y7) (fun h39 => ?_) (fun h39 => ?_)
      · have hS := cond_T h39 hS
        refine xSq ?_
        refine xRg ?_
        refine xB 2 [(1, 1)] [(0, vp b_n 0), (6, vp b2 0), (26, vs Af_payload f.payload cf_payload)] ?_
        have ff_payload := ff_payload.mono e9.r
        obtain ⟨y40, hy40, hS⟩ := bindO_T hS
        refine xE (eC 0 (fun g' lr eb ln => c28 g' (f.payload : List UInt8) Af_payload cf_payload (ff_payload.mono lr) hy40)) ?_
        rintro _ g41 _ e42 ⟨_, rfl, A40_0_input, c40_0_input, rfl, rfl, f40_0_input⟩
        have nf40_0_input := f40_0_input.len
        refine xB 3 [] [(0, vp b_n 0), (6, vp b2 0), (28, Value.agg #[vy y40.1.role, vi y40.1.steps, vi y40.1.want.base, vi y40.1.want.have_, vs A40_0_input y40.1.input c40_0_input]), (29, vi y40.2)] ?_
        refine xE eB ?_
        rintro _ _ _ - ⟨b43, rfl, rfl, rfl⟩
        refine xBo 2 [(7, 0)] [some ⟨b43, 50, (cHeard y40.1 A40_0_input c40_0_input)⟩, some ⟨b2, 50, (cHeard (⟨0, 0, (⟨0, 0⟩ : Want), ([] : List UInt8)⟩ : Heard) none 0)⟩, some ⟨b1, 100, (cFrame f Af_payload cf_payload)⟩, some ⟨b_n, 131, (cNode n An_input cn_input An_heard_input cn_heard_input An_set__in_ cn_set__in_)⟩] [(0, vp b_n 0), (6, vp b2 0), (10, vp b43 0), (11, vi y40.2)] ?_
        refine xRe ?_
        refine wpq_then ?_
        refine xRg ?_
        refine xBo 11 [(2, 0), (7, 3), (10, 3)] [some ⟨b43, 50, (cHeard y40.1 A40_0_input c40_0_input)⟩, some ⟨b2, 50, (cHeard (⟨0, 0, (⟨0, 0⟩ : Want), ([] : List UInt8)⟩ : Heard) none 0)⟩, some ⟨b1, 100, (cFrame f Af_payload cf_payload)⟩, some ⟨b_n, 131, (cNode ({ n with heard := y40.1, is_ := (y40.2 == 0) }) An_input cn_input A40_0_input c40_0_input An_set__in_ cn_set__in_)⟩] [(0, vp b_n 0), (6, vp b2 0)] ?_
        refine xRe ?_
        refine xSel [some 1, some 3] ?_
        refine xSub [(0, vp b_n 0), (6, vp b2 0)] ?_
        have eS := (Option.some.inj hS).symm
        exact hN10 _ eS _ _ _ e42 ⟨A40_0_input, c40_0_input, by kernel_rfl, by kernel_rfl, f40_0_input⟩
      · have hS := cond_F h39 hS
        refine xSk ?_
        have fn_heard_input := fn_heard_input.mono e9.b
        refine xSel [some 0, some 2] ?_
        refine xSub [(0, vp b_n 0), (6, vp b2 0)] ?_
        have eS := (Option.some.inj hS).symm
        exact hN10 _ eS _ _ _ (Gh.le.refl _) ⟨An_heard_input, cn_heard_input, by kernel_rfl, by kernel_rfl, fn_heard_input⟩

def o73 (n : RNode) (f : Frame) (came : Bool) (label : Int) : Bool :=
  (((((came && (f.label == label)) && (f.from_ == (IntKind.u8.wrap (IntKind.i64.wrap (3 - n.number))))) && (f.cycle == n.cycle))))
set_option maxRecDepth 100000 in
theorem c73 (g : Gh) (n : RNode) (An_input : Option Addr) (cn_input : Nat) (An_heard_input : Option Addr) (cn_heard_input : Nat) (f : Frame) (Af_payload : Option Addr) (cf_payload : Nat) (came : Bool) (label : Int) (fn_input : Arr g.r tyU8 An_input cn_input n.input) (fn_heard_input : Arr g.r tyU8 An_heard_input cn_heard_input n.heard.input) (ff_payload : Arr g.r tyU8 Af_payload cf_payload f.payload) {r : Bool} (hS : o73 n f came label = r) :
    Ctr Try.prog 73 [Value.agg #[vi n.number, vy n.role, vi n.steps, vi n.alone, vi n.stage, vi n.cycle, vs An_input n.input cn_input, vb n.fresh, vb n.isHeard, vy n.heard.role, vi n.heard.steps, vi n.heard.want.base, vi n.heard.want.have_, vs An_heard_input n.heard.input cn_heard_input, vb n.stepped, vy n.told.lateral, vy n.told.vertical, vy n.told.phase, vi n.told.bank, vi n.told.speed, vi n.told.alt, vi n.told.vs], Value.agg #[vy f.label, vy f.from_, vi f.cycle, vs Af_payload f.payload cf_payload], vb came, vy label] g [] (fun v ψ o => v = vb r ∧ o = []) := by
  unfold o73 at hS
  refine xFn Try.f73 (Try.f73.body.getD .skip) 32 ?_
  have nfn_input := fn_input.len
  have nfn_heard_input := fn_heard_input.len
  have nff_payload := ff_payload.len
  refine xSq ?_
  refine xRg ?_
  refine xE eB ?_
  rintro _ _ _ - ⟨b1, rfl, rfl, rfl⟩
  refine xE eB ?_
  rintro _ _ _ - ⟨b2, rfl, rfl, rfl⟩
  refine xB 1 [] [(2, vb came), (3, vy label), (4, vp b1 0), (5, vp b2 0)] ?_
  refine xRe ?_
  refine wpq_then ?_
  refine xSq ?_
  refine xRg ?_
  refine xB 2 [] [(3, vy label), (4, vp b1 0), (5, vp b2 0), (10, vb came)] ?_
  refine wpr_grp 7 [(4, vp b1 0), (5, vp b2 0), (15, vb (came && (f.label == label)))] (fun hk1 => ?_) ?_
  · refine wpq_split 10 (b := came) (by kernel_rfl) (fun q3 => ?_) (fun q3 => ?_)
    · refine xB 5 [(3, 0)] [(4, vp b1 0), (5, vp b2 0), (15, vb (f.label == label))] ?_
      refine wpq_re 15 (v := vb (f.label == label)) (Value.bool ((came && (f.label == label)))) (by kernel_rfl) (re_and1 q3) ?_
      exact wpq_sub _ (by kernel_rfl) hk1
    · refine xB 5 [] [(4, vp b1 0), (5, vp b2 0), (15, vb false)] ?_
      refine wpq_re 15 (v := vb false) (Value.bool ((came && (f.label == label)))) (by kernel_rfl) (re_and0 q3) ?_
      exact wpq_sub _ (by kernel_rfl) hk1
  · refine xB 1 [] [(4, vp b1 0), (5, vp b2 0), (16, vb (came && (f.label == label)))] ?_
    refine wpr_grp 16 [(4, vp b1 0), (5, vp b2 0), (24, vb ((came && (f.label == label)) && (f.from_ == (IntKind.u8.wrap (IntKind.i64.wrap (3 - n.number))))))] (fun hk7 => ?_) ?_
    · refine wpq_split 16 (b := (came && (f.label == label))) (by kernel_rfl) (fun q4 => ?_) (fun q4 => ?_)
      · have q4l := (and_true_ q4).1
        have q4r := (and_true_ q4).2
        have q4rp : f.label = label := eq_of_beq q4r
        refine xB 8 [(9, 0), (11, 1)] [(4, vp b1 0), (5, vp b2 0), (24, vb (f.from_ == (IntKind.u8.wrap (IntKind.i64.wrap (3 - n.number)))))] ?_
        refine wpq_re 24 (v := vb (f.from_ == (IntKind.u8.wrap (IntKind.i64.wrap (3 - n.number))))) (Value.bool (((came && (f.label == label)) && (f.from_ == (IntKind.u8.wrap (IntKind.i64.wrap (3 - n.number))))))) (by kernel_rfl) (re_and1 q4) ?_
        exact wpq_sub _ (by kernel_rfl) hk7
      · refine xB 8 [] [(4, vp b1 0), (5, vp b2 0), (24, vb false)] ?_
        refine wpq_re 24 (v := vb false) (Value.bool (((came && (f.label == label)) && (f.from_ == (IntKind.u8.wrap (IntKind.i64.wrap (3 - n.number))))))) (by kernel_rfl) (re_and0 q4) ?_
        exact wpq_sub _ (by kernel_rfl) hk7
    · refine xB 1 [] [(4, vp b1 0), (5, vp b2 0), (25, vb ((came && (f.label == label)) && (f.from_ == (IntKind.u8.wrap (IntKind.i64.wrap (3 - n.number))))))] ?_
      refine wpr_grp 23 [(31, vb (((came && (f.label == label)) && (f.from_ == (IntKind.u8.wrap (IntKind.i64.wrap (3 - n.number))))) && (f.cycle == n.cycle)))] (fun hk16 => ?_) ?_
      · refine wpq_split 25 (b := ((came && (f.label == label)) && (f.from_ == (IntKind.u8.wrap (IntKind.i64.wrap (3 - n.number)))))) (by kernel_rfl) (fun q5 => ?_) (fun q5 => ?_)
        · have q5l := (and_true_ q5).1
          have q5r := (and_true_ q5).2
          have q5ll := (and_true_ q5l).1
          have q5lr := (and_true_ q5l).2
          have q5lrp : f.label = label := eq_of_beq q5lr
          have q5rp : f.from_ = (IntKind.u8.wrap (IntKind.i64.wrap (3 - n.number))) := eq_of_beq q5r
          refine xB 6 [(18, 0), (20, 1)] [(31, vb (f.cycle == n.cycle))] ?_
          refine wpq_re 31 (v := vb (f.cycle == n.cycle)) (Value.bool ((((came && (f.label == label)) && (f.from_ == (IntKind.u8.wrap (IntKind.i64.wrap (3 - n.number))))) && (f.cycle == n.cycle)))) (by kernel_rfl) (re_and1 q5) ?_
          exact wpq_sub _ (by kernel_rfl) hk16
        · refine xB 6 [] [(31, vb false)] ?_
          refine wpq_re 31 (v := vb false) (Value.bool ((((came && (f.label == label)) && (f.from_ == (IntKind.u8.wrap (IntKind.i64.wrap (3 - n.number))))) && (f.cycle == n.cycle)))) (by kernel_rfl) (re_and0 q5) ?_
          exact wpq_sub _ (by kernel_rfl) hk16
      · refine xB 1 [] [(8, vb (((came && (f.label == label)) && (f.from_ == (IntKind.u8.wrap (IntKind.i64.wrap (3 - n.number))))) && (f.cycle == n.cycle)))] ?_
        refine xRe ?_
        refine wpq_then ?_
        have eS := hS.symm
        subst eS
        exact xRet [] [8] (Gh.le.refl _) ⟨by kernel_rfl, by kernel_rfl⟩ (fun _ _ h => h)

def o58_L0 (p : List UInt8) (s6 : Int × Nat) : Option (Ctl (Int × Nat) (Int)) :=
  (cond (decide (((s6.2 : Nat) : Int) < (((p).length : Nat) : Int))) (grd (decide (0 ≤ (IntKind.i64.wrap (8 * ((s6.2 : Nat) : Int))))) (grd (decide (((s6.2 : Nat) : Int) + 1 ≤ 9223372036854775807)) (some (Ctl.go ((lorK .u64 s6.1 (shlK .u64 ((List.getD p s6.2 0).toNat : Int) (IntKind.i64.wrap (8 * ((s6.2 : Nat) : Int))))), (s6.2 + 1)))))) (some (Ctl.done (s6.1))))
def o58 (p : List UInt8) : Option (Int) :=
  (bindO (τ := Int) (loopO (σ := Int × Nat) (ρ := Int) fuelN (o58_L0 p) (0, 0)) fun t1 => (some (((IntKind.i64.wrap t1) : Int))))
set_option maxRecDepth 100000 in
theorem c58 (g : Gh) (p : List UInt8) (Ap : Option Addr) (cp : Nat) (fp : Arr g.r tyU8 Ap cp p) {r : Int} (hS : o58 p = some r) :
    Ctr Try.prog 58 [vs Ap p cp] g [] (fun v ψ o => v = vi r ∧ o = []) := by
  unfold o58 at hS
  refine xFn Try.f58 (Try.f58.body.getD .skip) 23 ?_
  have nfp := fp.len
  refine xSq ?_
  refine xRg ?_
  refine xB 1 [] [(0, vs Ap p cp)] ?_
  refine xRe ?_
  refine wpq_then ?_
  refine xSq ?_
  refine xRg ?_
  refine xB 1 [] [(0, vs Ap p cp), (3, Value.int .u64 0)] ?_
  refine xRe ?_
  refine wpq_then ?_
  refine xSq ?_
  refine xSq ?_
  refine xRg ?_
  refine xB 3 [] [(3, Value.int .u64 0), (6, vs Ap p cp), (7, vi (((p).length : Nat) : Int)), (8, vi 0)] ?_
  refine xRe ?_
  refine wpq_then ?_
  refine xBindO hS (fun g own sl t1 => own = [] ∧ sl = [(3, Value.int .u64 t1)]) ?_ ?_
  · rintro g2 _ _ t1 e3 ⟨rfl, rfl⟩ hS
    refine wpq_then ?_
    refine xSq ?_
    refine xRg ?_
    refine xB 3 [] [(2, vi (IntKind.i64.wrap t1))] ?_
    refine xRe ?_
    refine wpq_then ?_
    have eS := (Option.some.inj hS).symm
    subst eS
    exact xRet [] [2] e3 ⟨by kernel_rfl, by kernel_rfl⟩ (fun _ _ h => h)
  · intro u1 hS hN1
    refine xBl 0 ?_
    refine xSub [(3, Value.int .u64 0), (6, vs Ap p cp), (7, vi (((p).length : Nat) : Int)), (8, vi 0)] ?_
    refine xLo hS (fun g own sl s6 => own = [] ∧ sl = [(3, Value.int .u64 s6.1), (6, vs Ap p cp), (7, vi (((p).length : Nat) : Int)), (8, vi ((s6.2 : Nat) : Int))]) ⟨by kernel_rfl, by kernel_rfl⟩ ?_
    rintro g7 _ _ s6 u6 e8 ⟨rfl, rfl⟩ hS Qr6 hN6 hD6
    unfold o58_L0 at hS
    refine xSq ?_
    refine xRg ?_
    refine xB 1 [] [(3, Value.int .u64 s6.1), (6, vs Ap p cp), (7, vi (((p).length : Nat) : Int)), (8, vi ((s6.2 : Nat) : Int)), (9, vb (decide (((s6.2 : Nat) : Int) < (((p).length : Nat) : Int))))] ?_
    refine xRe ?_
    refine wpq_then ?_
    refine xSq ?_
    refine xCd (decide (((s6.2 : Nat) : Int) < (((p).length : Nat) : Int))) (fun h9 => ?_) (fun h9 => ?_)
    · have hS := cond_T h9 hS
      have h9p := of_decide_eq_true h9
      refine xSk ?_
      refine wpq_then ?_
      refine xSub [(3, Value.int .u64 s6.1), (6, vs Ap p cp), (7, vi (((p).length : Nat) : Int)), (8, vi ((s6.2 : Nat) : Int))] ?_
      refine xSq ?_
      refine xBl 1 ?_
      refine xSq ?_
      refine xRg ?_
      have fp := fp.mono e8.r
      have i11 : s6.2 < (p).length := by omega
      obtain ⟨ad10, cs10, hA10, hr10, hc10⟩ := fp.at_ (get_getD (d := 0) i11)
      have hr10 : cs10 = [vy ((List.getD p s6.2 0).toNat : Int)] := hr10
      subst hr10
      have nb10 := UInt8.toNat_lt (List.getD p s6.2 0)
      refine xB 1 [] [(3, Value.int .u64 s6.1), (6, vs Ap p cp), (7, vi (((p).length : Nat) : Int)), (8, vi ((s6.2 : Nat) : Int)), (10, vi ((s6.2 : Nat) : Int))] ?_
      refine xV (qIx s6.2 1 hA10 rfl i11) ?_
      refine xV (qLdP (Addr.add ad10 (s6.2 * 1)) 0 hc10) ?_
      refine xB 2 [] [(3, Value.int .u64 s6.1), (4, vi ((s6.2 : Nat) : Int)), (5, vy ((List.getD p s6.2 0).toNat : Int)), (6, vs Ap p cp), (7, vi (((p).length : Nat) : Int)), (8, vi ((s6.2 : Nat) : Int))] ?_
      refine xRe ?_
      refine wpq_then ?_
      refine xRg ?_
      refine xB 2 [] [(3, Value.int .u64 s6.1), (4, vi ((s6.2 : Nat) : Int)), (6, vs Ap p cp), (7, vi (((p).length : Nat) : Int)), (8, vi ((s6.2 : Nat) : Int)), (13, Value.int .u64 s6.1), (14, vy ((List.getD p s6.2 0).toNat : Int))] ?_
      refine xV (qConv .u8 .u64 (((List.getD p s6.2 0).toNat : Int)) (((List.getD p s6.2 0).toNat : Int)) (wr_u64 (by omega))) ?_
      obtain ⟨q12, hS⟩ := grd_T hS
      have q12p := of_decide_eq_true q12
      refine xB 2 [] [(3, Value.int .u64 s6.1), (6, vs Ap p cp), (7, vi (((p).length : Nat) : Int)), (8, vi ((s6.2 : Nat) : Int)), (13, Value.int .u64 s6.1), (15, Value.int .u64 ((List.getD p s6.2 0).toNat : Int)), (17, vi (IntKind.i64.wrap (8 * ((s6.2 : Nat) : Int))))] ?_
      refine xV (qShl .u64 .i64 (((List.getD p s6.2 0).toNat : Int)) ((IntKind.i64.wrap (8 * ((s6.2 : Nat) : Int)))) (by omega)) ?_
      refine xB 2 [] [(3, Value.int .u64 (lorK .u64 s6.1 (shlK .u64 ((List.getD p s6.2 0).toNat : Int) (IntKind.i64.wrap (8 * ((s6.2 : Nat) : Int)))))), (6, vs Ap p cp), (7, vi (((p).length : Nat) : Int)), (8, vi ((s6.2 : Nat) : Int))] ?_
      refine xRe ?_
      refine wpq_blockN ?_
      refine wpq_then ?_
      refine xRg ?_
      obtain ⟨q13, hS⟩ := grd_T hS
      have q13p := of_decide_eq_true q13
      refine xV (qAdd .i64 (((s6.2 : Nat) : Int)) (1) (wr64 (by omega))) ?_
      refine xB 1 [] [(3, Value.int .u64 (lorK .u64 s6.1 (shlK .u64 ((List.getD p s6.2 0).toNat : Int) (IntKind.i64.wrap (8 * ((s6.2 : Nat) : Int)))))), (6, vs Ap p cp), (7, vi (((p).length : Nat) : Int)), (8, vi (((s6.2 : Nat) : Int) + 1))] ?_
      refine xRe ?_
      refine wpq_thenN ?_
      refine xSub [(3, Value.int .u64 (lorK .u64 s6.1 (shlK .u64 ((List.getD p s6.2 0).toNat : Int) (IntKind.i64.wrap (8 * ((s6.2 : Nat) : Int)))))), (6, vs Ap p cp), (7, vi (((p).length : Nat) : Int)), (8, vi (((s6.2 : Nat) : Int) + 1))] ?_
      have eS := (Option.some.inj hS).symm
      exact hN6 _ eS _ _ _ (Gh.le.refl _) ⟨by kernel_rfl, by kernel_rfl⟩
    · have hS := cond_F h9 hS
      have h9p := of_decide_eq_false h9
      refine xEx 0 ?_
      refine wpq_thenX ?_
      refine wpq_thenX ?_
      refine wpq_blockE ?_
      refine xSub [(3, Value.int .u64 s6.1)] ?_
      have eS := (Option.some.inj hS).symm
      have eS := (hD6 _ eS).symm
      exact hN1 _ eS _ _ _ e8 ⟨by kernel_rfl, by kernel_rfl⟩

def o30 (p : List UInt8) : Option (Heard × Int) :=
  (bindO (τ := Bool) (cond ((((decide ((((p).length : Nat) : Int) < 19) || decide ((((p).length : Nat) : Int) > 419)) || decide (((List.getD p 0 0).toNat : Int) < 1)) || decide (((List.getD p 0 0).toNat : Int) > 3))) (some (true)) (bindO (τ := Int) (o58 ((List.take (9 - 1) (List.drop 1 p)) : List UInt8)) fun y470 => (some (decide (y470 < 0))))) fun t9 => (bindO (τ := Bool) (cond (t9) (some (true)) (grd (decide (17 ≤ (((p).length : Nat) : Int))) (bindO (τ := Int) (o58 ((List.take (17 - 9) (List.drop 9 p)) : List UInt8)) fun y465 => (some (decide (y465 < 0)))))) fun t12 => (cond (t12) (some (((⟨0, 0, (⟨0, 0⟩ : Want), ([] : List UInt8)⟩ : Heard), (4 : Int)))) (grd (decide (17 ≤ (((p).length : Nat) : Int))) (grd (decide (19 ≤ (((p).length : Nat) : Int))) (bindO (τ := Int) (o58 ((List.take (17 - 9) (List.drop 9 p)) : List UInt8)) fun y21 => (bindO (τ := Int) (o58 ((List.take (19 - 17) (List.drop 17 p)) : List UInt8)) fun y24 => (grd (decide (0 < (p).length)) (grd (decide (9 ≤ (((p).length : Nat) : Int))) (grd (decide (19 ≤ (((p).length : Nat) : Int))) (bindO (τ := Int) (o58 ((List.take (9 - 1) (List.drop 1 p)) : List UInt8)) fun y230 => (some (((⟨((List.getD p 0 0).toNat : Int), y230, (⟨y21, y24⟩ : Want), (List.drop 19 p)⟩ : Heard), (0 : Int)))))))))))))))
set_option maxRecDepth 100000 in
theorem c30 (g : Gh) (p : List UInt8) (Ap : Option Addr) (cp : Nat) (fp : Arr g.r tyU8 Ap cp p) {r : Heard × Int} (hS : o30 p = some r) :
    Ctr Try.prog 30 [vs Ap p cp] g [] (fun v ψ o => ∃ (Ar_0_input : Option Addr) (cr_0_input : Nat), v = Value.tuple #[Value.agg #[vy r.1.role, vi r.1.steps, vi r.1.want.base, vi r.1.want.have_, vs Ar_0_input r.1.input cr_0_input], vi r.2] ∧ o = [] ∧ Arr ψ tyU8 Ar_0_input cr_0_input r.1.input) := by
  unfold o30 at hS
  refine xFn Try.f30 (Try.f30.body.getD .skip) 57 ?_
  have nfp := fp.len
  refine xSq ?_
  refine xRg ?_
  refine xE eB ?_
  rintro _ _ _ - ⟨b1, rfl, rfl, rfl⟩
  refine xB 1 [] [(0, vs Ap p cp), (2, vp b1 0)] ?_
  refine xRe ?_
  refine wpq_then ?_
  refine xSq ?_
  refine xSq ?_
  refine xRg ?_
  refine xB 4 [] [(0, vs Ap p cp), (2, vp b1 0), (8, vb (decide ((((p).length : Nat) : Int) < 19)))] ?_
  refine wpr_grp 8 [(0, vs Ap p cp), (2, vp b1 0), (12, vb (decide ((((p).length : Nat) : Int) < 19) || decide ((((p).length : Nat) : Int) > 419)))] (fun hk3 => ?_) ?_
  · refine wpq_split 8 (b := decide ((((p).length : Nat) : Int) < 19)) (by kernel_rfl) (fun q2 => ?_) (fun q2 => ?_)
    · have q2p := of_decide_eq_true q2
      refine xB 4 [] [(0, vs Ap p cp), (2, vp b1 0), (12, vb true)] ?_
      refine wpq_re 12 (v := vb true) (Value.bool ((decide ((((p).length : Nat) : Int) < 19) || decide ((((p).length : Nat) : Int) > 419)))) (by kernel_rfl) (re_or1 q2) ?_
      exact wpq_sub _ (by kernel_rfl) hk3
    · have q2p := of_decide_eq_false q2
      refine xB 4 [] [(0, vs Ap p cp), (2, vp b1 0), (12, vb (decide ((((p).length : Nat) : Int) > 419)))] ?_
      refine wpq_re 12 (v := vb (decide ((((p).length : Nat) : Int) > 419))) (Value.bool ((decide ((((p).length : Nat) : Int) < 19) || decide ((((p).length : Nat) : Int) > 419)))) (by kernel_rfl) (re_or0 q2) ?_
      exact wpq_sub _ (by kernel_rfl) hk3
  · refine xB 1 [] [(0, vs Ap p cp), (2, vp b1 0), (13, vb (decide ((((p).length : Nat) : Int) < 19) || decide ((((p).length : Nat) : Int) > 419)))] ?_
    refine wpr_grp 14 [(0, vs Ap p cp), (2, vp b1 0), (18, vb ((decide ((((p).length : Nat) : Int) < 19) || decide ((((p).length : Nat) : Int) > 419)) || decide (((List.getD p 0 0).toNat : Int) < 1)))] (fun hk8 => ?_) ?_
    · refine wpq_split 13 (b := (decide ((((p).length : Nat) : Int) < 19) || decide ((((p).length : Nat) : Int) > 419))) (by kernel_rfl) (fun q3 => ?_) (fun q3 => ?_)
      · refine xB 5 [] [(0, vs Ap p cp), (2, vp b1 0), (18, vb true)] ?_
        refine wpq_re 18 (v := vb true) (Value.bool (((decide ((((p).length : Nat) : Int) < 19) || decide ((((p).length : Nat) : Int) > 419)) || decide (((List.getD p 0 0).toNat : Int) < 1)))) (by kernel_rfl) (re_or1 q3) ?_
        exact wpq_sub _ (by kernel_rfl) hk8
      · have q3l := (or_false_ q3).1
        have q3r := (or_false_ q3).2
        have q3lp := of_decide_eq_false q3l
        have q3rp := of_decide_eq_false q3r
        have i5 : 0 < (p).length := by omega
        obtain ⟨ad4, cs4, hA4, hr4, hc4⟩ := fp.at_ (get_getD (d := 0) i5)
        have hr4 : cs4 = [vy ((List.getD p 0 0).toNat : Int)] := hr4
        subst hr4
        have nb4 := UInt8.toNat_lt (List.getD p 0 0)
        refine xB 1 [] [(0, vs Ap p cp), (2, vp b1 0), (13, vb false), (14, vs Ap p cp)] ?_
        refine xV (qIx 0 1 hA4 rfl i5) ?_
        refine xV (qLdP (Addr.add ad4 (0 * 1)) 0 hc4) ?_
        refine xB 2 [] [(0, vs Ap p cp), (2, vp b1 0), (18, vb (decide (((List.getD p 0 0).toNat : Int) < 1)))] ?_
        refine wpq_re 18 (v := vb (decide (((List.getD p 0 0).toNat : Int) < 1))) (Value.bool (((decide ((((p).length : Nat) : Int) < 19) || decide ((((p).length : Nat) : Int) > 419)) || decide (((List.getD p 0 0).toNat : Int) < 1)))) (by kernel_rfl) (re_or0 q3) ?_
        exact wpq_sub _ (by kernel_rfl) hk8
    · refine xB 1 [] [(0, vs Ap p cp), (2, vp b1 0), (19, vb ((decide ((((p).length : Nat) : Int) < 19) || decide ((((p).length : Nat) : Int) > 419)) || decide (((List.getD p 0 0).toNat : Int) < 1)))] ?_
      refine wpr_grp 20 [(0, vs Ap p cp), (2, vp b1 0), (24, vb (((decide ((((p).length : Nat) : Int) < 19) || decide ((((p).length : Nat) : Int) > 419)) || decide (((List.getD p 0 0).toNat : Int) < 1)) || decide (((List.getD p 0 0).toNat : Int) > 3)))] (fun hk14 => ?_) ?_
      · refine wpq_split 19 (b := ((decide ((((p).length : Nat) : Int) < 19) || decide ((((p).length : Nat) : Int) > 419)) || decide (((List.getD p 0 0).toNat : Int) < 1))) (by kernel_rfl) (fun q6 => ?_) (fun q6 => ?_)
        · refine xB 5 [] [(0, vs Ap p cp), (2, vp b1 0), (24, vb true)] ?_
          refine wpq_re 24 (v := vb true) (Value.bool ((((decide ((((p).length : Nat) : Int) < 19) || decide ((((p).length : Nat) : Int) > 419)) || decide (((List.getD p 0 0).toNat : Int) < 1)) || decide (((List.getD p 0 0).toNat : Int) > 3)))) (by kernel_rfl) (re_or1 q6) ?_
          exact wpq_sub _ (by kernel_rfl) hk14
        · have q6l := (or_false_ q6).1
          have q6r := (or_false_ q6).2
          have q6ll := (or_false_ q6l).1
          have q6lr := (or_false_ q6l).2
          have q6llp := of_decide_eq_false q6ll
          have q6lrp := of_decide_eq_false q6lr
          have q6rp := of_decide_eq_false q6r
          have i8 : 0 < (p).length := by omega
          obtain ⟨ad7, cs7, hA7, hr7, hc7⟩ := fp.at_ (get_getD (d := 0) i8)
          have hr7 : cs7 = [vy ((List.getD p 0 0).toNat : Int)] := hr7
          subst hr7
          have nb7 := UInt8.toNat_lt (List.getD p 0 0)
          refine xB 1 [] [(0, vs Ap p cp), (2, vp b1 0), (19, vb false), (20, vs Ap p cp)] ?_
          refine xV (qIx 0 1 hA7 rfl i8) ?_
          refine xV (qLdP (Addr.add ad7 (0 * 1)) 0 hc7) ?_
          refine xB 2 [] [(0, vs Ap p cp), (2, vp b1 0), (24, vb (decide (((List.getD p 0 0).toNat : Int) > 3)))] ?_
          refine wpq_re 24 (v := vb (decide (((List.getD p 0 0).toNat : Int) > 3))) (Value.bool ((((decide ((((p).length : Nat) : Int) < 19) || decide ((((p).length : Nat) : Int) > 419)) || decide (((List.getD p 0 0).toNat : Int) < 1)) || decide (((List.getD p 0 0).toNat : Int) > 3)))) (by kernel_rfl) (re_or0 q6) ?_
          exact wpq_sub _ (by kernel_rfl) hk14
      · refine xB 1 [] [(0, vs Ap p cp), (2, vp b1 0), (25, vb (((decide ((((p).length : Nat) : Int) < 19) || decide ((((p).length : Nat) : Int) > 419)) || decide (((List.getD p 0 0).toNat : Int) < 1)) || decide (((List.getD p 0 0).toNat : Int) > 3)))] ?_
        refine xGJo hS 26 (fun g own sl t9 => own = [some ⟨b1, 55, (cHeard (⟨0, 0, (⟨0, 0⟩ : Want), ([] : List UInt8)⟩ : Heard) none 0)⟩] ∧ sl = [(0, vs Ap p cp), (2, vp b1 0), (30, vb t9)]) ?_ ?_
        · rintro g10 _ _ t9 e11 ⟨rfl, rfl⟩ hS
          refine xB 1 [] [(0, vs Ap p cp), (2, vp b1 0), (31, vb t9)] ?_
          refine xGJo hS 32 (fun g own sl t12 => own = [some ⟨b1, 55, (cHeard (⟨0, 0, (⟨0, 0⟩ : Want), ([] : List UInt8)⟩ : Heard) none 0)⟩] ∧ sl = [(0, vs Ap p cp), (2, vp b1 0), (36, vb t12)]) ?_ ?_
          · rintro g13 _ _ t12 e14 ⟨rfl, rfl⟩ hS
            refine xRe ?_
            refine wpq_then ?_
            refine xCd (t12) (fun h15 => ?_) (fun h15 => ?_)
            · have hS := cond_T h15 hS
              refine xSq ?_
              refine xRg ?_
              refine xBo 3 [(1, 0)] [some ⟨b1, 55, (cHeard (⟨0, 0, (⟨0, 0⟩ : Want), ([] : List UInt8)⟩ : Heard) none 0)⟩] [(2, vp b1 0), (3, vi 4)] ?_
              refine xRe ?_
              refine wpq_then ?_
              have eS := (Option.some.inj hS).symm
              subst eS
              exact xRetC [] [(2, 0)] (e11.trans e14) ⟨none, 0, by kernel_rfl, by kernel_rfl, Arr.nil⟩ (fun _ _ h => h)
            · have hS := cond_F h15 hS
              refine xSk ?_
              refine wpq_then ?_
              refine xSub [(0, vs Ap p cp), (2, vp b1 0)] ?_
              refine xSq ?_
              refine xDr 0 [] [8, 0, 1, 3, 4, 6] [some ⟨b1, 55, (cHeard (⟨0, 0, (⟨0, 0⟩ : Want), ([] : List UInt8)⟩ : Heard) none 0)⟩] 9 (fun RG => ?_) (fun _ _ _ _ _ h => h)
              have fp := fp.mono (e11.trans e14).r
              obtain ⟨q16, hS⟩ := grd_T hS
              have q16p := of_decide_eq_true q16
              have ncapf17 := fp.cap
              have f17 : Arr g13.r tyU8 (offA Ap cp 9 1) (cp - 9) (List.take (17 - 9) (List.drop 9 p)) := fp.cut 9 17 (by omega) (by omega)
              have nf17 := f17.len
              have hlf17 : 17 - 9 = ((List.take (17 - 9) (List.drop 9 p))).length := by simp only [List.length_take, List.length_drop] <;> omega
              have hvf17 : ((((List.take (17 - 9) (List.drop 9 p))).length : Nat) : Int) = 17 - 9 := by omega
              refine xT 8 [0] [] [some 0] [(0, vs Ap p cp), (2, vp b1 0), (38, vs Ap p cp)] RG (Psi.le.refl _) ?_
              refine xTp 1 RG (fun _ => (qSl (m := 1) (A := Ap) (len := (p).length) (c := cp) 9 17 (some 9) (some 17) ((List.take (17 - 9) (List.drop 9 p))).length rfl rfl (by omega) (by omega) hlf17)) ?_
              obtain ⟨q18, hS⟩ := grd_T hS
              have q18p := of_decide_eq_true q18
              have ncapf19 := fp.cap
              have f19 : Arr g13.r tyU8 (offA Ap cp 17 1) (cp - 17) (List.take (19 - 17) (List.drop 17 p)) := fp.cut 17 19 (by omega) (by omega)
              have nf19 := f19.len
              have hlf19 : 19 - 17 = ((List.take (19 - 17) (List.drop 17 p))).length := by simp only [List.length_take, List.length_drop] <;> omega
              have hvf19 : ((((List.take (19 - 17) (List.drop 17 p))).length : Nat) : Int) = 19 - 17 := by omega
              refine xT 6 [3] [] [some 0] [(0, vs Ap p cp), (2, vp b1 0), (39, vs (offA Ap cp 9 1) (List.take (17 - 9) (List.drop 9 p)) (cp - 9)), (41, vs Ap p cp)] RG (Psi.le.refl _) ?_
              refine xTp 4 RG (fun _ => (qSl (m := 1) (A := Ap) (len := (p).length) (c := cp) 17 19 (some 17) (some 19) ((List.take (19 - 17) (List.drop 17 p))).length rfl rfl (by omega) (by omega) hlf19)) ?_
              obtain ⟨y21, hy21, hS⟩ := bindO_T hS
              obtain ⟨y24, hy24, hS⟩ := bindO_T hS
              refine wpa_meet (fun g own sl => ∃ (b27 : Nat), own = [some ⟨b27, 53, [vi 0, vi 0]⟩, some ⟨b1, 55, (cHeard (⟨0, 0, (⟨0, 0⟩ : Want), ([] : List UInt8)⟩ : Heard) none 0)⟩] ∧ sl = [(0, vs Ap p cp), (2, vp b1 0), (4, vp b27 0), (44, Value.agg #[vi y21, vi y24])]) 1 [true, true, true, true, true, true, true, true, false] ?_ (fun hD20 => ?_)
              · rintro g221 _ _ e222 ⟨b27, rfl, rfl⟩
                refine xO1 (lds := []) 8 ?_
                refine xId (lds := []) e222.r (eStL b27 0 0) ?_
                rintro _ _ _ - ⟨rfl, rfl⟩
                refine kf ?_
                refine xAe (lds := []) ?_
                refine wpq_then ?_
                refine xSub [(0, vs Ap p cp), (2, vp b1 0), (4, vp b27 0)] ?_
                refine xSq ?_
                refine xDr 0 [2, 6] [12, 11, 13] [some ⟨b27, 53, [vi y21, vi y24]⟩] 14 (fun RG => ?_) (fun _ _ _ _ _ h => h)
                have fp := fp.mono e222.r
                obtain ⟨q224, hS⟩ := grd_T hS
                have q224p := of_decide_eq_true q224
                obtain ⟨ad223, cs223, hA223, hr223, hc223⟩ := fp.at_ (get_getD (d := 0) q224p)
                have hr223 : cs223 = [vy ((List.getD p 0 0).toNat : Int)] := hr223
                subst hr223
                have nb223 := UInt8.toNat_lt (List.getD p 0 0)
                refine xT 13 [0] [] [some 0] [(0, vs Ap p cp), (2, vp b1 0), (4, vp b27 0), (45, vs Ap p cp)] RG (Psi.le.refl _) ?_
                refine xTp 1 RG (fun _ => (qIx 0 1 hA223 rfl q224p)) ?_
                refine xTv 2 [some 0] RG (Psi.le.refl _) (qLdP (Addr.add ad223 (0 * 1)) 0 hc223) ?_
                obtain ⟨q225, hS⟩ := grd_T hS
                have q225p := of_decide_eq_true q225
                have ncapf226 := fp.cap
                have f226 : Arr g221.r tyU8 (offA Ap cp 1 1) (cp - 1) (List.take (9 - 1) (List.drop 1 p)) := fp.cut 1 9 (by omega) (by omega)
                have nf226 := f226.len
                have hlf226 : 9 - 1 = ((List.take (9 - 1) (List.drop 1 p))).length := by simp only [List.length_take, List.length_drop] <;> omega
                have hvf226 : ((((List.take (9 - 1) (List.drop 1 p))).length : Nat) : Int) = 9 - 1 := by omega
                refine xT 10 [3] [] [some 0] [(0, vs Ap p cp), (2, vp b1 0), (4, vp b27 0), (47, vy ((List.getD p 0 0).toNat : Int)), (48, vs Ap p cp)] RG (Psi.le.refl _) ?_
                refine xTp 4 RG (fun _ => (qSl (m := 1) (A := Ap) (len := (p).length) (c := cp) 1 9 (some 1) (some 9) ((List.take (9 - 1) (List.drop 1 p))).length rfl rfl (by omega) (by omega) hlf226)) ?_
                obtain ⟨q227, hS⟩ := grd_T hS
                have q227p := of_decide_eq_true q227
                have ncapf228 := fp.cap
                have f228 : Arr g221.r tyU8 (offA Ap cp 19 1) (cp - 19) (List.drop 19 p) := fp.cut_from 19 (by omega)
                have nf228 := f228.len
                have hlf228 : (p).length - 19 = ((List.drop 19 p)).length := by simp only [List.length_take, List.length_drop] <;> omega
                have hvf228 : ((((List.drop 19 p)).length : Nat) : Int) = (((p).length : Nat) : Int) - 19 := by omega
                refine xT 7 [6, 8] [(6, 0)] [some 0] [(2, vp b1 0), (47, vy ((List.getD p 0 0).toNat : Int)), (49, vs (offA Ap cp 1 1) (List.take (9 - 1) (List.drop 1 p)) (cp - 1)), (51, Value.agg #[vi y21, vi y24]), (53, vs Ap p cp)] RG (Psi.le.refl _) ?_
                refine xTp 9 RG (fun _ => (qSl (m := 1) (A := Ap) (len := (p).length) (c := cp) 19 (p).length (some 19) none ((List.drop 19 p)).length rfl rfl (by omega) (by omega) hlf228)) ?_
                obtain ⟨y230, hy230, hS⟩ := bindO_T hS
                refine wpa_meet (fun g own sl => ∃ (A233 : Option Addr) (c233 : Nat) (k233 : Option Bk), own = [k233, some ⟨b27, 53, [vi y21, vi y24]⟩, some ⟨b1, 55, (cHeard (⟨0, 0, (⟨0, 0⟩ : Want), ([] : List UInt8)⟩ : Heard) none 0)⟩] ∧ sl = [(2, vp b1 0), (47, vy ((List.getD p 0 0).toNat : Int)), (50, vi y230), (51, Value.agg #[vi y21, vi y24]), (52, vs A233 ([] : List UInt8) c233), (54, vs (offA Ap cp 19 1) (List.drop 19 p) (cp - 19))] ∧ Buf g.b tyU8 5 (.slice A233 (([] : List UInt8)).length c233) k233 ([] : List UInt8)) 4 [true, true, true, true, true, true, true, true, true, true, false, false, false, false] ?_ (fun hD229 => ?_)
                · rintro g430 _ _ e431 ⟨A233, c233, k233, rfl, rfl, h233⟩
                  have nh233 := h233.len
                  have f228 := f228.mono e431.r
                  obtain ⟨nw432, hp432, hs432⟩ := f228.srcR
                  refine xO1 (lds := [2, 6]) 10 ?_
                  refine xIe (lds := [2, 6]) e431.r (eApp (T := tyU8) (p := g430.b) (et := 5) (bytes := 1) (xs := ([] : List UInt8)) (ys := ((List.drop 19 p) : List UInt8)) 0 h233 rfl (fun w hs => hs432 w _ hs) (flatU8.reps hp432) (by first | omega | (simp only [List.length_cons, List.length_nil] at *; omega)) (by first | omega | (simp only [List.length_cons, List.length_nil] at *; omega))) ?_
                  rintro _ _ _ - ⟨A432, c432, k432, rfl, rfl, rfl, h432⟩
                  refine kk [some 1] ?_
                  have h432 : Buf g430.b tyU8 5 (.slice A432 (((List.drop 19 p) : List UInt8)).length c432) k432 ((List.drop 19 p) : List UInt8) := h432
                  have nh432 := h432.len
                  refine xT 2 [11] [] [some 1] [(2, vp b1 0), (56, Value.agg #[vy ((List.getD p 0 0).toNat : Int), vi y230, vi y21, vi y24, vs A432 (List.drop 19 p) c432])] RG e431.r ?_
                  refine xO1 (lds := [2, 6]) 12 ?_
                  refine xId (lds := [2, 6]) e431.r (eStL b1 0 2) ?_
                  rintro _ _ _ - ⟨rfl, rfl⟩
                  refine kf ?_
                  refine xT 0 [13] [] [some 1] [(2, vp b1 0), (3, vi 0)] RG e431.r ?_
                  refine xAe (lds := [2, 6]) ?_
                  refine wpq_then ?_
                  refine wpq_freeze 0 (by kernel_rfl) h432 (fun g433 e434 f435 => ?_)
                  have eS := (Option.some.inj hS).symm
                  subst eS
                  exact xRetC [] [(2, 2)] (e11.trans (e14.trans (e222.trans (e431.trans e434)))) ⟨A432, c432, by kernel_rfl, by kernel_rfl, f435⟩ (fun _ _ h => h)
                · refine xO2 (lds := [2, 6]) 5 7 ?_ ?_
                  · refine xIe (lds := [2, 6]) (Psi.le.refl _) (eC 0 (fun g' lr eb ln => c58 g' ((List.take (9 - 1) (List.drop 1 p)) : List UInt8) (offA Ap cp 1 1) (cp - 1) (f226.mono lr) hy230)) ?_
                    rintro _ g437 _ e438 ⟨_, rfl, rfl, rfl⟩
                    refine kk [some 0] ?_
                    refine xO1 (lds := [2, 6]) 7 ?_
                    refine xIe (lds := [2, 6]) e438.r (eBs (T := tyU8) (p := g437.b) (et := 5) (xs := ([] : List UInt8)) reps_nil (by simp)) ?_
                    rintro _ _ _ - ⟨A439, c439, k439, rfl, rfl, rfl, h439⟩
                    refine kk [some 1] ?_
                    refine xSub [(2, vp b1 0), (47, vy ((List.getD p 0 0).toNat : Int)), (50, vi y230), (51, Value.agg #[vi y21, vi y24]), (52, vs A439 ([] : List UInt8) c439), (54, vs (offA Ap cp 19 1) (List.drop 19 p) (cp - 19))] ?_
                    exact hD229 _ _ _ e438 ⟨A439, c439, k439, by kernel_rfl, by kernel_rfl, h439⟩
                  · refine xIe (lds := [2, 6]) (Psi.le.refl _) (eBs (T := tyU8) (p := g221.b) (et := 5) (xs := ([] : List UInt8)) reps_nil (by simp)) ?_
                    rintro _ _ _ - ⟨A440, c440, k440, rfl, rfl, rfl, h440⟩
                    refine kk [some 1] ?_
                    refine xO1 (lds := [2, 6]) 5 ?_
                    refine xIe (lds := [2, 6]) (Psi.le.refl _) (eC 0 (fun g' lr eb ln => c58 g' ((List.take (9 - 1) (List.drop 1 p)) : List UInt8) (offA Ap cp 1 1) (cp - 1) (f226.mono lr) hy230)) ?_
                    rintro _ g442 _ e443 ⟨_, rfl, rfl, rfl⟩
                    refine kk [some 1] ?_
                    refine xSub [(2, vp b1 0), (47, vy ((List.getD p 0 0).toNat : Int)), (50, vi y230), (51, Value.agg #[vi y21, vi y24]), (52, vs A440 ([] : List UInt8) c440), (54, vs (offA Ap cp 19 1) (List.drop 19 p) (cp - 19))] ?_
                    have h440 := h440.mono e443.b
                    exact hD229 _ _ _ e443 ⟨A440, c440, k440, by kernel_rfl, by kernel_rfl, h440⟩
              · refine xO2 (lds := []) 2 7 ?_ ?_
                · refine xIe (lds := []) (Psi.le.refl _) (eC 0 (fun g' lr eb ln => c58 g' ((List.take (17 - 9) (List.drop 9 p)) : List UInt8) (offA Ap cp 9 1) (cp - 9) (f17.mono lr) hy21)) ?_
                  rintro _ g445 _ e446 ⟨_, rfl, rfl, rfl⟩
                  refine kk [some 0] ?_
                  refine xO2 (lds := []) 5 7 ?_ ?_
                  · have f19 := f19.mono e446.r
                    refine xIe (lds := []) e446.r (eC 0 (fun g' lr eb ln => c58 g' ((List.take (19 - 17) (List.drop 17 p)) : List UInt8) (offA Ap cp 17 1) (cp - 17) (f19.mono lr) hy24)) ?_
                    rintro _ g448 _ e449 ⟨_, rfl, rfl, rfl⟩
                    refine kk [some 0] ?_
                    refine xT 2 [6] [] [some 0] [(0, vs Ap p cp), (2, vp b1 0), (44, Value.agg #[vi y21, vi y24])] RG (e446.trans e449).r ?_
                    refine xO1 (lds := []) 7 ?_
                    refine xIe (lds := []) (e446.trans e449).r eB ?_
                    rintro _ _ _ - ⟨b450, rfl, rfl, rfl⟩
                    refine kk [some 1] ?_
                    refine xSub [(0, vs Ap p cp), (2, vp b1 0), (4, vp b450 0), (44, Value.agg #[vi y21, vi y24])] ?_
                    exact hD20 _ _ _ (e446.trans e449) ⟨b450, by kernel_rfl, by kernel_rfl⟩
                  · refine xIe (lds := []) e446.r eB ?_
                    rintro _ _ _ - ⟨b451, rfl, rfl, rfl⟩
                    refine kk [some 1] ?_
                    have f19 := f19.mono e446.r
                    refine xO1 (lds := []) 5 ?_
                    refine xIe (lds := []) e446.r (eC 0 (fun g' lr eb ln => c58 g' ((List.take (19 - 17) (List.drop 17 p)) : List UInt8) (offA Ap cp 17 1) (cp - 17) (f19.mono lr) hy24)) ?_
                    rintro _ g453 _ e454 ⟨_, rfl, rfl, rfl⟩
                    refine kk [some 1] ?_
                    refine xT 1 [6] [] [some 1] [(0, vs Ap p cp), (2, vp b1 0), (4, vp b451 0), (44, Value.agg #[vi y21, vi y24])] RG (e446.trans e454).r ?_
                    refine xSub [(0, vs Ap p cp), (2, vp b1 0), (4, vp b451 0), (44, Value.agg #[vi y21, vi y24])] ?_
                    exact hD20 _ _ _ (e446.trans e454) ⟨b451, by kernel_rfl, by kernel_rfl⟩
                · refine xIe (lds := []) (Psi.le.refl _) eB ?_
                  rintro _ _ _ - ⟨b455, rfl, rfl, rfl⟩
                  refine kk [some 1] ?_
                  refine xO1 (lds := []) 2 ?_
                  refine xIe (lds := []) (Psi.le.refl _) (eC 0 (fun g' lr eb ln => c58 g' ((List.take (17 - 9) (List.drop 9 p)) : List UInt8) (offA Ap cp 9 1) (cp - 9) (f17.mono lr) hy21)) ?_
                  rintro _ g457 _ e458 ⟨_, rfl, rfl, rfl⟩
                  refine kk [some 1] ?_
                  have f19 := f19.mono e458.r
                  refine xO1 (lds := []) 5 ?_
                  refine xIe (lds := []) e458.r (eC 0 (fun g' lr eb ln => c58 g' ((List.take (19 - 17) (List.drop 17 p)) : List UInt8) (offA Ap cp 17 1) (cp - 17) (f19.mono lr) hy24)) ?_
                  rintro _ g460 _ e461 ⟨_, rfl, rfl, rfl⟩
                  refine kk [some 1] ?_
                  refine xT 1 [6] [] [some 1] [(0, vs Ap p cp), (2, vp b1 0), (4, vp b455 0), (44, Value.agg #[vi y21, vi y24])] RG (e458.trans e461).r ?_
                  refine xSub [(0, vs Ap p cp), (2, vp b1 0), (4, vp b455 0), (44, Value.agg #[vi y21, vi y24])] ?_
                  exact hD20 _ _ _ (e458.trans e461) ⟨b455, by kernel_rfl, by kernel_rfl⟩
          · intro u12 hS hN12
            refine wpq_split 31 (b := t9) (by kernel_rfl) (fun q462 => ?_) (fun q462 => ?_)
            · have hS := cond_T q462 hS
              refine xB 5 [] [(0, vs Ap p cp), (2, vp b1 0), (36, vb true)] ?_
              refine xSub [(0, vs Ap p cp), (2, vp b1 0), (36, vb true)] ?_
              exact hN12 _ (Option.some.inj hS).symm _ _ _ (Gh.le.refl _) ⟨by kernel_rfl, by kernel_rfl⟩
            · have hS := cond_F q462 hS
              have fp := fp.mono e11.r
              obtain ⟨q463, hS⟩ := grd_T hS
              have q463p := of_decide_eq_true q463
              have ncapf464 := fp.cap
              have f464 : Arr g10.r tyU8 (offA Ap cp 9 1) (cp - 9) (List.take (17 - 9) (List.drop 9 p)) := fp.cut 9 17 (by omega) (by omega)
              have nf464 := f464.len
              have hlf464 : 17 - 9 = ((List.take (17 - 9) (List.drop 9 p))).length := by simp only [List.length_take, List.length_drop] <;> omega
              have hvf464 : ((((List.take (17 - 9) (List.drop 9 p))).length : Nat) : Int) = 17 - 9 := by omega
              refine xB 1 [] [(0, vs Ap p cp), (2, vp b1 0), (31, vb false), (32, vs Ap p cp)] ?_
              refine xV (qSl (m := 1) (A := Ap) (len := (p).length) (c := cp) 9 17 (some 9) (some 17) ((List.take (17 - 9) (List.drop 9 p))).length rfl rfl (by omega) (by omega) hlf464) ?_
              obtain ⟨y465, hy465, hS⟩ := bindO_T hS
              refine xE (eC 0 (fun g' lr eb ln => c58 g' ((List.take (17 - 9) (List.drop 9 p)) : List UInt8) (offA Ap cp 9 1) (cp - 9) (f464.mono lr) hy465)) ?_
              rintro _ g466 _ e467 ⟨_, rfl, rfl, rfl⟩
              refine xB 2 [] [(0, vs Ap p cp), (2, vp b1 0), (36, vb (decide (y465 < 0)))] ?_
              refine xSub [(0, vs Ap p cp), (2, vp b1 0), (36, vb (decide (y465 < 0)))] ?_
              exact hN12 _ (Option.some.inj hS).symm _ _ _ e467 ⟨by kernel_rfl, by kernel_rfl⟩
        · intro u9 hS hN9
          refine wpq_split 25 (b := (((decide ((((p).length : Nat) : Int) < 19) || decide ((((p).length : Nat) : Int) > 419)) || decide (((List.getD p 0 0).toNat : Int) < 1)) || decide (((List.getD p 0 0).toNat : Int) > 3))) (by kernel_rfl) (fun q468 => ?_) (fun q468 => ?_)
          · have hS := cond_T q468 hS
            refine xB 5 [] [(0, vs Ap p cp), (2, vp b1 0), (30, vb true)] ?_
            refine xSub [(0, vs Ap p cp), (2, vp b1 0), (30, vb true)] ?_
            exact hN9 _ (Option.some.inj hS).symm _ _ _ (Gh.le.refl _) ⟨by kernel_rfl, by kernel_rfl⟩
          · have hS := cond_F q468 hS
            have q468l := (or_false_ q468).1
            have q468r := (or_false_ q468).2
            have q468ll := (or_false_ q468l).1
            have q468lr := (or_false_ q468l).2
            have q468lll := (or_false_ q468ll).1
            have q468llr := (or_false_ q468ll).2
            have q468lllp := of_decide_eq_false q468lll
            have q468llrp := of_decide_eq_false q468llr
            have q468lrp := of_decide_eq_false q468lr
            have q468rp := of_decide_eq_false q468r
            have ncapf469 := fp.cap
            have f469 : Arr g.r tyU8 (offA Ap cp 1 1) (cp - 1) (List.take (9 - 1) (List.drop 1 p)) := fp.cut 1 9 (by omega) (by omega)
            have nf469 := f469.len
            have hlf469 : 9 - 1 = ((List.take (9 - 1) (List.drop 1 p))).length := by simp only [List.length_take, List.length_drop] <;> omega
            have hvf469 : ((((List.take (9 - 1) (List.drop 1 p))).length : Nat) : Int) = 9 - 1 := by omega
            refine xB 1 [] [(0, vs Ap p cp), (2, vp b1 0), (25, vb false), (26, vs Ap p cp)] ?_
            refine xV (qSl (m := 1) (A := Ap) (len := (p).length) (c := cp) 1 9 (some 1) (some 9) ((List.take (9 - 1) (List.drop 1 p))).length rfl rfl (by omega) (by omega) hlf469) ?_
            obtain ⟨y470, hy470, hS⟩ := bindO_T hS
            refine xE (eC 0 (fun g' lr eb ln => c58 g' ((List.take (9 - 1) (List.drop 1 p)) : List UInt8) (offA Ap cp 1 1) (cp - 1) (f469.mono lr) hy470)) ?_
            rintro _ g471 _ e472 ⟨_, rfl, rfl, rfl⟩
            refine xB 2 [] [(0, vs Ap p cp), (2, vp b1 0), (30, vb (decide (y470 < 0)))] ?_
            refine xSub [(0, vs Ap p cp), (2, vp b1 0), (30, vb (decide (y470 < 0)))] ?_
            exact hN9 _ (Option.some.inj hS).symm _ _ _ e472 ⟨by kernel_rfl, by kernel_rfl⟩

def o20 (number : Int) (role : Int) (steps : Int) (alone : Int) (heard : Bool) (other : Int) (theirs : Int) : Int :=
  (letJ (τ := Int) (cond (((other != 2) && (other != 3))) (1) (other)) fun t2 => (cond ((role == 2)) (cond (((heard && (t2 == 2)) && (decide (theirs > steps) || ((theirs == steps) && (number == 2))))) ((1 : Int)) ((2 : Int))) (cond ((role == 3)) (cond (((!heard) || (t2 == 1))) ((2 : Int)) (cond ((t2 == 2)) (cond ((theirs == steps)) ((3 : Int)) ((1 : Int))) (cond (decide (theirs > steps)) ((1 : Int)) (cond ((decide (theirs < steps) || (number == 1))) ((2 : Int)) ((3 : Int)))))) (cond ((((!heard) && decide (alone ≥ 3)) || ((heard && (t2 == 1)) && (number == 1)))) ((2 : Int)) ((1 : Int))))))
set_option maxRecDepth 100000 in
theorem c20 (g : Gh) (number : Int) (role : Int) (steps : Int) (alone : Int) (heard : Bool) (other : Int) (theirs : Int) {r : Int} (hS : o20 number role steps alone heard other theirs = r) :
    Ctr Try.prog 20 [vi number, vy role, vi steps, vi alone, vb heard, vy other, vi theirs] g [] (fun v ψ o => v = vy r ∧ o = []) := by
  unfold o20 at hS
  refine xFn Try.f20 (Try.f20.body.getD .skip) 82 ?_
  refine xSq ?_
  refine xRg ?_
  refine xB 1 [] [(0, vi number), (1, vy role), (2, vi steps), (3, vi alone), (4, vb heard), (5, vy other), (6, vi theirs)] ?_
  refine xRe ?_
  refine wpq_then ?_
  refine xSq ?_
  refine xSq ?_
  refine xRg ?_
  refine xB 3 [] [(0, vi number), (1, vy role), (2, vi steps), (3, vi alone), (4, vb heard), (5, vy other), (6, vi theirs), (17, vb (other != 2))] ?_
  refine wpr_grp 6 [(0, vi number), (1, vy role), (2, vi steps), (3, vi alone), (4, vb heard), (5, vy other), (6, vi theirs), (20, vb ((other != 2) && (other != 3)))] (fun hk2 => ?_) ?_
  · refine wpq_split 17 (b := (other != 2)) (by kernel_rfl) (fun q1 => ?_) (fun q1 => ?_)
    · have q1p : ¬ (other = 2) := ne_of_bne_ q1
      refine xB 3 [] [(0, vi number), (1, vy role), (2, vi steps), (3, vi alone), (4, vb heard), (5, vy other), (6, vi theirs), (20, vb (other != 3))] ?_
      refine wpq_re 20 (v := vb (other != 3)) (Value.bool (((other != 2) && (other != 3)))) (by kernel_rfl) (re_and1 q1) ?_
      exact wpq_sub _ (by kernel_rfl) hk2
    · have q1p : other = 2 := eq_of_bne_false_ q1
      refine xB 3 [] [(0, vi number), (1, vy role), (2, vi steps), (3, vi alone), (4, vb heard), (5, vy other), (6, vi theirs), (20, vb false)] ?_
      refine wpq_re 20 (v := vb false) (Value.bool (((other != 2) && (other != 3)))) (by kernel_rfl) (re_and0 q1) ?_
      exact wpq_sub _ (by kernel_rfl) hk2
  · refine xRe ?_
    refine wpq_then ?_
    refine xLetJ hS (fun g own sl t2 => own = [] ∧ sl = [(0, vi number), (1, vy role), (2, vi steps), (3, vi alone), (4, vb heard), (5, vy t2), (6, vi theirs)]) ?_ ?_
    · rintro g3 _ _ t2 e4 ⟨rfl, rfl⟩ hS
      refine wpq_then ?_
      refine xSq ?_
      refine xSq ?_
      refine xRg ?_
      refine xB 2 [] [(0, vi number), (1, vy role), (2, vi steps), (3, vi alone), (4, vb heard), (5, vy t2), (6, vi theirs), (22, vb (role == 2))] ?_
      refine xRe ?_
      refine wpq_then ?_
      refine xCd ((role == 2)) (fun h5 => ?_) (fun h5 => ?_)
      · have hS := cond_T h5 hS
        have h5p : role = 2 := eq_of_beq h5
        refine xSq ?_
        refine xSq ?_
        refine xRg ?_
        refine xB 2 [] [(0, vi number), (2, vi steps), (5, vy t2), (6, vi theirs), (24, vb heard)] ?_
        refine wpr_grp 5 [(0, vi number), (2, vi steps), (6, vi theirs), (27, vb (heard && (t2 == 2)))] (fun hk1 => ?_) ?_
        · refine wpq_split 24 (b := heard) (by kernel_rfl) (fun q6 => ?_) (fun q6 => ?_)
          · refine xB 3 [] [(0, vi number), (2, vi steps), (6, vi theirs), (27, vb (t2 == 2))] ?_
            refine wpq_re 27 (v := vb (t2 == 2)) (Value.bool ((heard && (t2 == 2)))) (by kernel_rfl) (re_and1 q6) ?_
            exact wpq_sub _ (by kernel_rfl) hk1
          · refine xB 3 [] [(0, vi number), (2, vi steps), (6, vi theirs), (27, vb false)] ?_
            refine wpq_re 27 (v := vb false) (Value.bool ((heard && (t2 == 2)))) (by kernel_rfl) (re_and0 q6) ?_
            exact wpq_sub _ (by kernel_rfl) hk1
        · refine xB 1 [] [(0, vi number), (2, vi steps), (6, vi theirs), (28, vb (heard && (t2 == 2)))] ?_
          refine wpr_grp 19 [(41, vb ((heard && (t2 == 2)) && (decide (theirs > steps) || ((theirs == steps) && (number == 2)))))] (fun hk5 => ?_) ?_
          · refine wpq_split 28 (b := (heard && (t2 == 2))) (by kernel_rfl) (fun q7 => ?_) (fun q7 => ?_)
            · have q7l := (and_true_ q7).1
              have q7r := (and_true_ q7).2
              have q7rp : t2 = 2 := eq_of_beq q7r
              refine xB 4 [] [(0, vi number), (2, vi steps), (6, vi theirs), (28, vb true), (32, vb (decide (theirs > steps)))] ?_
              refine wpr_grp 18 [(28, vb true), (40, vb (decide (theirs > steps) || ((theirs == steps) && (number == 2))))] (fun hk9 => ?_) ?_
              · refine wpq_split 32 (b := decide (theirs > steps)) (by kernel_rfl) (fun q8 => ?_) (fun q8 => ?_)
                · have q8p := of_decide_eq_true q8
                  refine xB 8 [] [(28, vb true), (40, vb true)] ?_
                  refine wpq_re 40 (v := vb true) (Value.bool ((decide (theirs > steps) || ((theirs == steps) && (number == 2))))) (by kernel_rfl) (re_or1 q8) ?_
                  exact wpq_sub _ (by kernel_rfl) hk9
                · have q8p := of_decide_eq_false q8
                  refine xB 4 [] [(0, vi number), (28, vb true), (32, vb false), (36, vb (theirs == steps))] ?_
                  refine wpr_grp 17 [(28, vb true), (32, vb false), (39, vb ((theirs == steps) && (number == 2)))] (fun hk13 => ?_) ?_
                  · refine wpq_split 36 (b := (theirs == steps)) (by kernel_rfl) (fun q9 => ?_) (fun q9 => ?_)
                    · have q9p : theirs = steps := eq_of_beq q9
                      refine xB 3 [] [(28, vb true), (32, vb false), (39, vb (number == 2))] ?_
                      refine wpq_re 39 (v := vb (number == 2)) (Value.bool (((theirs == steps) && (number == 2)))) (by kernel_rfl) (re_and1 q9) ?_
                      exact wpq_sub _ (by kernel_rfl) hk13
                    · have q9p : ¬ (theirs = steps) := ne_of_beq_false_ q9
                      refine xB 3 [] [(28, vb true), (32, vb false), (39, vb false)] ?_
                      refine wpq_re 39 (v := vb false) (Value.bool (((theirs == steps) && (number == 2)))) (by kernel_rfl) (re_and0 q9) ?_
                      exact wpq_sub _ (by kernel_rfl) hk13
                  · refine xB 1 [] [(28, vb true), (40, vb ((theirs == steps) && (number == 2)))] ?_
                    refine wpq_re 40 (v := vb ((theirs == steps) && (number == 2))) (Value.bool ((decide (theirs > steps) || ((theirs == steps) && (number == 2))))) (by kernel_rfl) (re_or0 q8) ?_
                    exact wpq_sub _ (by kernel_rfl) hk9
              · refine xB 1 [] [(41, vb (decide (theirs > steps) || ((theirs == steps) && (number == 2))))] ?_
                refine wpq_re 41 (v := vb (decide (theirs > steps) || ((theirs == steps) && (number == 2)))) (Value.bool (((heard && (t2 == 2)) && (decide (theirs > steps) || ((theirs == steps) && (number == 2)))))) (by kernel_rfl) (re_and1 q7) ?_
                exact wpq_sub _ (by kernel_rfl) hk5
            · refine xB 13 [] [(41, vb false)] ?_
              refine wpq_re 41 (v := vb false) (Value.bool (((heard && (t2 == 2)) && (decide (theirs > steps) || ((theirs == steps) && (number == 2)))))) (by kernel_rfl) (re_and0 q7) ?_
              exact wpq_sub _ (by kernel_rfl) hk5
          · refine xRe ?_
            refine wpq_then ?_
            refine xCd (((heard && (t2 == 2)) && (decide (theirs > steps) || ((theirs == steps) && (number == 2))))) (fun h10 => ?_) (fun h10 => ?_)
            · have hS := cond_T h10 hS
              have h10l := (and_true_ h10).1
              have h10r := (and_true_ h10).2
              have h10ll := (and_true_ h10l).1
              have h10lr := (and_true_ h10l).2
              have h10lrp : t2 = 2 := eq_of_beq h10lr
              refine xSq ?_
              refine xRg ?_
              refine xB 1 [] [(14, vy 1)] ?_
              refine xRe ?_
              refine wpq_then ?_
              have eS := hS.symm
              subst eS
              exact xRet [] [14] e4 ⟨by kernel_rfl, by kernel_rfl⟩ (fun _ _ h => h)
            · have hS := cond_F h10 hS
              refine xSk ?_
              refine wpq_then ?_
              refine xSub [] ?_
              refine xSq ?_
              refine xRg ?_
              refine xB 1 [] [(14, vy 2)] ?_
              refine xRe ?_
              refine wpq_then ?_
              have eS := hS.symm
              subst eS
              exact xRet [] [14] e4 ⟨by kernel_rfl, by kernel_rfl⟩ (fun _ _ h => h)
      · have hS := cond_F h5 hS
        have h5p : ¬ (role = 2) := ne_of_beq_false_ h5
        refine xSk ?_
        refine wpq_then ?_
        refine xSub [(0, vi number), (1, vy role), (2, vi steps), (3, vi alone), (4, vb heard), (5, vy t2), (6, vi theirs)] ?_
        refine xSq ?_
        refine xSq ?_
        refine xRg ?_
        refine xB 2 [] [(0, vi number), (2, vi steps), (3, vi alone), (4, vb heard), (5, vy t2), (6, vi theirs), (43, vb (role == 3))] ?_
        refine xRe ?_
        refine wpq_then ?_
        refine xCd ((role == 3)) (fun h11 => ?_) (fun h11 => ?_)
        · have hS := cond_T h11 hS
          have h11p : role = 3 := eq_of_beq h11
          refine xSq ?_
          refine xSq ?_
          refine xRg ?_
          refine xB 3 [] [(0, vi number), (2, vi steps), (5, vy t2), (6, vi theirs), (46, vb (!heard))] ?_
          refine wpr_grp 6 [(0, vi number), (2, vi steps), (5, vy t2), (6, vi theirs), (49, vb ((!heard) || (t2 == 1)))] (fun hk2 => ?_) ?_
          · refine wpq_split 46 (b := (!heard)) (by kernel_rfl) (fun q12 => ?_) (fun q12 => ?_)
            · have q12n := not_eq_true_ q12
              refine xB 3 [] [(0, vi number), (2, vi steps), (5, vy t2), (6, vi theirs), (49, vb true)] ?_
              refine wpq_re 49 (v := vb true) (Value.bool (((!heard) || (t2 == 1)))) (by kernel_rfl) (re_or1 q12) ?_
              exact wpq_sub _ (by kernel_rfl) hk2
            · have q12n := not_eq_false_ q12
              refine xB 3 [] [(0, vi number), (2, vi steps), (5, vy t2), (6, vi theirs), (49, vb (t2 == 1))] ?_
              refine wpq_re 49 (v := vb (t2 == 1)) (Value.bool (((!heard) || (t2 == 1)))) (by kernel_rfl) (re_or0 q12) ?_
              exact wpq_sub _ (by kernel_rfl) hk2
          · refine xRe ?_
            refine wpq_then ?_
            refine xCd (((!heard) || (t2 == 1))) (fun h13 => ?_) (fun h13 => ?_)
            · have hS := cond_T h13 hS
              refine xSq ?_
              refine xRg ?_
              refine xB 1 [] [(14, vy 2)] ?_
              refine xRe ?_
              refine wpq_then ?_
              have eS := hS.symm
              subst eS
              exact xRet [] [14] e4 ⟨by kernel_rfl, by kernel_rfl⟩ (fun _ _ h => h)
            · have hS := cond_F h13 hS
              have h13l := (or_false_ h13).1
              have h13r := (or_false_ h13).2
              have h13ln := not_eq_false_ h13l
              have h13rp : ¬ (t2 = 1) := ne_of_beq_false_ h13r
              refine xSk ?_
              refine wpq_then ?_
              refine xSub [(0, vi number), (2, vi steps), (5, vy t2), (6, vi theirs)] ?_
              refine xSq ?_
              refine xSq ?_
              refine xRg ?_
              refine xB 2 [] [(0, vi number), (2, vi steps), (6, vi theirs), (51, vb (t2 == 2))] ?_
              refine xRe ?_
              refine wpq_then ?_
              refine xCd ((t2 == 2)) (fun h14 => ?_) (fun h14 => ?_)
              · have hS := cond_T h14 hS
                have h14p : t2 = 2 := eq_of_beq h14
                refine xSq ?_
                refine xSq ?_
                refine xRg ?_
                refine xB 3 [] [(54, vb (theirs == steps))] ?_
                refine xRe ?_
                refine wpq_then ?_
                refine xCd ((theirs == steps)) (fun h15 => ?_) (fun h15 => ?_)
                · have hS := cond_T h15 hS
                  have h15p : theirs = steps := eq_of_beq h15
                  refine xSq ?_
                  refine xRg ?_
                  refine xB 1 [] [(14, vy 3)] ?_
                  refine xRe ?_
                  refine wpq_then ?_
                  have eS := hS.symm
                  subst eS
                  exact xRet [] [14] e4 ⟨by kernel_rfl, by kernel_rfl⟩ (fun _ _ h => h)
                · have hS := cond_F h15 hS
                  have h15p : ¬ (theirs = steps) := ne_of_beq_false_ h15
                  refine xSk ?_
                  refine wpq_then ?_
                  refine xSub [] ?_
                  refine xSq ?_
                  refine xRg ?_
                  refine xB 1 [] [(14, vy 1)] ?_
                  refine xRe ?_
                  refine wpq_then ?_
                  have eS := hS.symm
                  subst eS
                  exact xRet [] [14] e4 ⟨by kernel_rfl, by kernel_rfl⟩ (fun _ _ h => h)
              · have hS := cond_F h14 hS
                have h14p : ¬ (t2 = 2) := ne_of_beq_false_ h14
                refine xSk ?_
                refine wpq_then ?_
                refine xSub [(0, vi number), (2, vi steps), (6, vi theirs)] ?_
                refine xSq ?_
                refine xSq ?_
                refine xRg ?_
                refine xB 3 [] [(0, vi number), (2, vi steps), (6, vi theirs), (57, vb (decide (theirs > steps)))] ?_
                refine xRe ?_
                refine wpq_then ?_
                refine xCd (decide (theirs > steps)) (fun h16 => ?_) (fun h16 => ?_)
                · have hS := cond_T h16 hS
                  have h16p := of_decide_eq_true h16
                  refine xSq ?_
                  refine xRg ?_
                  refine xB 1 [] [(14, vy 1)] ?_
                  refine xRe ?_
                  refine wpq_then ?_
                  have eS := hS.symm
                  subst eS
                  exact xRet [] [14] e4 ⟨by kernel_rfl, by kernel_rfl⟩ (fun _ _ h => h)
                · have hS := cond_F h16 hS
                  have h16p := of_decide_eq_false h16
                  refine xSk ?_
                  refine wpq_then ?_
                  refine xSub [(0, vi number), (2, vi steps), (6, vi theirs)] ?_
                  refine xSq ?_
                  refine xSq ?_
                  refine xRg ?_
                  refine xB 4 [] [(0, vi number), (61, vb (decide (theirs < steps)))] ?_
                  refine wpr_grp 7 [(64, vb (decide (theirs < steps) || (number == 1)))] (fun hk3 => ?_) ?_
                  · refine wpq_split 61 (b := decide (theirs < steps)) (by kernel_rfl) (fun q17 => ?_) (fun q17 => ?_)
                    · have q17p := of_decide_eq_true q17
                      refine xB 3 [] [(64, vb true)] ?_
                      refine wpq_re 64 (v := vb true) (Value.bool ((decide (theirs < steps) || (number == 1)))) (by kernel_rfl) (re_or1 q17) ?_
                      exact wpq_sub _ (by kernel_rfl) hk3
                    · have q17p := of_decide_eq_false q17
                      refine xB 3 [] [(64, vb (number == 1))] ?_
                      refine wpq_re 64 (v := vb (number == 1)) (Value.bool ((decide (theirs < steps) || (number == 1)))) (by kernel_rfl) (re_or0 q17) ?_
                      exact wpq_sub _ (by kernel_rfl) hk3
                  · refine xRe ?_
                    refine wpq_then ?_
                    refine xCd ((decide (theirs < steps) || (number == 1))) (fun h18 => ?_) (fun h18 => ?_)
                    · have hS := cond_T h18 hS
                      refine xSq ?_
                      refine xRg ?_
                      refine xB 1 [] [(14, vy 2)] ?_
                      refine xRe ?_
                      refine wpq_then ?_
                      have eS := hS.symm
                      subst eS
                      exact xRet [] [14] e4 ⟨by kernel_rfl, by kernel_rfl⟩ (fun _ _ h => h)
                    · have hS := cond_F h18 hS
                      have h18l := (or_false_ h18).1
                      have h18r := (or_false_ h18).2
                      have h18lp := of_decide_eq_false h18l
                      have h18rp : ¬ (number = 1) := ne_of_beq_false_ h18r
                      refine xSk ?_
                      refine wpq_then ?_
                      refine xSub [] ?_
                      refine xSq ?_
                      refine xRg ?_
                      refine xB 1 [] [(14, vy 3)] ?_
                      refine xRe ?_
                      refine wpq_then ?_
                      have eS := hS.symm
                      subst eS
                      exact xRet [] [14] e4 ⟨by kernel_rfl, by kernel_rfl⟩ (fun _ _ h => h)
        · have hS := cond_F h11 hS
          have h11p : ¬ (role = 3) := ne_of_beq_false_ h11
          refine xSk ?_
          refine wpq_then ?_
          refine xSub [(0, vi number), (3, vi alone), (4, vb heard), (5, vy t2)] ?_
          refine xSq ?_
          refine xSq ?_
          refine xRg ?_
          refine xB 3 [] [(0, vi number), (3, vi alone), (4, vb heard), (5, vy t2), (67, vb (!heard))] ?_
          refine wpr_grp 6 [(0, vi number), (4, vb heard), (5, vy t2), (70, vb ((!heard) && decide (alone ≥ 3)))] (fun hk2 => ?_) ?_
          · refine wpq_split 67 (b := (!heard)) (by kernel_rfl) (fun q19 => ?_) (fun q19 => ?_)
            · have q19n := not_eq_true_ q19
              refine xB 3 [] [(0, vi number), (4, vb heard), (5, vy t2), (70, vb (decide (alone ≥ 3)))] ?_
              refine wpq_re 70 (v := vb (decide (alone ≥ 3))) (Value.bool (((!heard) && decide (alone ≥ 3)))) (by kernel_rfl) (re_and1 q19) ?_
              exact wpq_sub _ (by kernel_rfl) hk2
            · have q19n := not_eq_false_ q19
              refine xB 3 [] [(0, vi number), (4, vb heard), (5, vy t2), (70, vb false)] ?_
              refine wpq_re 70 (v := vb false) (Value.bool (((!heard) && decide (alone ≥ 3)))) (by kernel_rfl) (re_and0 q19) ?_
              exact wpq_sub _ (by kernel_rfl) hk2
          · refine xB 1 [] [(0, vi number), (4, vb heard), (5, vy t2), (71, vb ((!heard) && decide (alone ≥ 3)))] ?_
            refine wpr_grp 17 [(81, vb (((!heard) && decide (alone ≥ 3)) || ((heard && (t2 == 1)) && (number == 1))))] (fun hk6 => ?_) ?_
            · refine wpq_split 71 (b := ((!heard) && decide (alone ≥ 3))) (by kernel_rfl) (fun q20 => ?_) (fun q20 => ?_)
              · have q20l := (and_true_ q20).1
                have q20r := (and_true_ q20).2
                have q20ln := not_eq_true_ q20l
                have q20rp := of_decide_eq_true q20r
                refine xB 10 [] [(81, vb true)] ?_
                refine wpq_re 81 (v := vb true) (Value.bool ((((!heard) && decide (alone ≥ 3)) || ((heard && (t2 == 1)) && (number == 1))))) (by kernel_rfl) (re_or1 q20) ?_
                exact wpq_sub _ (by kernel_rfl) hk6
              · refine xB 2 [] [(0, vi number), (5, vy t2), (71, vb false), (73, vb heard)] ?_
                refine wpr_grp 12 [(0, vi number), (71, vb false), (76, vb (heard && (t2 == 1)))] (fun hk8 => ?_) ?_
                · refine wpq_split 73 (b := heard) (by kernel_rfl) (fun q21 => ?_) (fun q21 => ?_)
                  · refine xB 3 [] [(0, vi number), (71, vb false), (76, vb (t2 == 1))] ?_
                    refine wpq_re 76 (v := vb (t2 == 1)) (Value.bool ((heard && (t2 == 1)))) (by kernel_rfl) (re_and1 q21) ?_
                    exact wpq_sub _ (by kernel_rfl) hk8
                  · refine xB 3 [] [(0, vi number), (71, vb false), (76, vb false)] ?_
                    refine wpq_re 76 (v := vb false) (Value.bool ((heard && (t2 == 1)))) (by kernel_rfl) (re_and0 q21) ?_
                    exact wpq_sub _ (by kernel_rfl) hk8
                · refine xB 1 [] [(0, vi number), (71, vb false), (77, vb (heard && (t2 == 1)))] ?_
                  refine wpr_grp 16 [(71, vb false), (80, vb ((heard && (t2 == 1)) && (number == 1)))] (fun hk12 => ?_) ?_
                  · refine wpq_split 77 (b := (heard && (t2 == 1))) (by kernel_rfl) (fun q22 => ?_) (fun q22 => ?_)
                    · have q22l := (and_true_ q22).1
                      have q22r := (and_true_ q22).2
                      have q22rp : t2 = 1 := eq_of_beq q22r
                      refine xB 3 [] [(71, vb false), (80, vb (number == 1))] ?_
                      refine wpq_re 80 (v := vb (number == 1)) (Value.bool (((heard && (t2 == 1)) && (number == 1)))) (by kernel_rfl) (re_and1 q22) ?_
                      exact wpq_sub _ (by kernel_rfl) hk12
                    · refine xB 3 [] [(71, vb false), (80, vb false)] ?_
                      refine wpq_re 80 (v := vb false) (Value.bool (((heard && (t2 == 1)) && (number == 1)))) (by kernel_rfl) (re_and0 q22) ?_
                      exact wpq_sub _ (by kernel_rfl) hk12
                  · refine xB 1 [] [(81, vb ((heard && (t2 == 1)) && (number == 1)))] ?_
                    refine wpq_re 81 (v := vb ((heard && (t2 == 1)) && (number == 1))) (Value.bool ((((!heard) && decide (alone ≥ 3)) || ((heard && (t2 == 1)) && (number == 1))))) (by kernel_rfl) (re_or0 q20) ?_
                    exact wpq_sub _ (by kernel_rfl) hk6
            · refine xRe ?_
              refine wpq_then ?_
              refine xCd ((((!heard) && decide (alone ≥ 3)) || ((heard && (t2 == 1)) && (number == 1)))) (fun h23 => ?_) (fun h23 => ?_)
              · have hS := cond_T h23 hS
                refine xSq ?_
                refine xRg ?_
                refine xB 1 [] [(14, vy 2)] ?_
                refine xRe ?_
                refine wpq_then ?_
                have eS := hS.symm
                subst eS
                exact xRet [] [14] e4 ⟨by kernel_rfl, by kernel_rfl⟩ (fun _ _ h => h)
              · have hS := cond_F h23 hS
                have h23l := (or_false_ h23).1
                have h23r := (or_false_ h23).2
                refine xSk ?_
                refine wpq_then ?_
                refine xSub [] ?_
                refine xSq ?_
                refine xRg ?_
                refine xB 1 [] [(14, vy 1)] ?_
                refine xRe ?_
                refine wpq_then ?_
                have eS := hS.symm
                subst eS
                exact xRet [] [14] e4 ⟨by kernel_rfl, by kernel_rfl⟩ (fun _ _ h => h)
    · intro u2 hS hN2
      refine xCd (((other != 2) && (other != 3))) (fun h24 => ?_) (fun h24 => ?_)
      · have hS := cond_T h24 hS
        have h24l := (and_true_ h24).1
        have h24r := (and_true_ h24).2
        have h24lp : ¬ (other = 2) := ne_of_bne_ h24l
        have h24rp : ¬ (other = 3) := ne_of_bne_ h24r
        refine xRg ?_
        refine xB 1 [] [(0, vi number), (1, vy role), (2, vi steps), (3, vi alone), (4, vb heard), (5, vy 1), (6, vi theirs)] ?_
        refine xRe ?_
        refine xSub [(0, vi number), (1, vy role), (2, vi steps), (3, vi alone), (4, vb heard), (5, vy 1), (6, vi theirs)] ?_
        have eS := hS.symm
        exact hN2 _ eS _ _ _ (Gh.le.refl _) ⟨by kernel_rfl, by kernel_rfl⟩
      · have hS := cond_F h24 hS
        refine xSk ?_
        refine xSub [(0, vi number), (1, vy role), (2, vi steps), (3, vi alone), (4, vb heard), (5, vy other), (6, vi theirs)] ?_
        have eS := hS.symm
        exact hN2 _ eS _ _ _ (Gh.le.refl _) ⟨by kernel_rfl, by kernel_rfl⟩

def o61 (n : RNode) (f : Frame) (came : Bool) : Option (RNode × Heard × Bool × Int) :=
  (cond ((n.stage != 1)) (some ((n, (⟨0, 0, (⟨0, 0⟩ : Want), ([] : List UInt8)⟩ : Heard), (false), (8 : Int)))) (letJ (τ := Bool) (o73 ({ n with alone := (IntKind.i64.wrap (n.alone + 1)), stage := 2 }) f (came) (1 : Int)) fun y6 => (bindO (τ := Int × Bool × Heard) (cond (y6) (bindO (τ := Heard × Int) (o30 (f.payload : List UInt8)) fun y25 => (letJ (τ := Int × Bool × Heard) (cond ((y25.2 == 0)) ((0, true, (y25.1 : Heard))) (((IntKind.i64.wrap (n.alone + 1)), n.isHeard, (n.heard : Heard)))) fun t29 => (some ((t29.1, t29.2.1, (t29.2.2 : Heard)))))) (some (((IntKind.i64.wrap (n.alone + 1)), n.isHeard, (n.heard : Heard))))) fun t9 => (letJ (τ := Int) (o20 (n.number : Int) (n.role : Int) (n.steps : Int) (t9.1 : Int) (t9.2.1) (t9.2.2.role : Int) (t9.2.2.steps : Int)) fun y12 => (letJ (τ := Int) (cond ((y12 == 1)) (0) (n.steps)) fun t15 => (letJ (τ := Int × Bool) (cond (((y12 == 2) && (n.role == 1))) ((0, true)) ((t15, n.fresh))) fun t19 => (some (((⟨n.number, y12, t19.1, t9.1, 2, n.cycle, n.input, t19.2, t9.2.1, t9.2.2, n.stepped, n.told⟩ : RNode), t9.2.2, (t9.2.1), (0 : Int))))))))))
set_option maxRecDepth 100000 in
theorem c61 (g : Gh) (n : RNode) (An_input : Option Addr) (cn_input : Nat) (An_heard_input : Option Addr) (cn_heard_input : Nat) (f : Frame) (Af_payload : Option Addr) (cf_payload : Nat) (came : Bool) (fn_input : Arr g.b tyU8 An_input cn_input n.input) (fn_heard_input : Arr g.b tyU8 An_heard_input cn_heard_input n.heard.input) (ff_payload : Arr g.r tyU8 Af_payload cf_payload f.payload) {r : RNode × Heard × Bool × Int} (hS : o61 n f came = some r) :
    Ctr Try.prog 61 [Value.agg #[vi n.number, vy n.role, vi n.steps, vi n.alone, vi n.stage, vi n.cycle, vs An_input n.input cn_input, vb n.fresh, vb n.isHeard, vy n.heard.role, vi n.heard.steps, vi n.heard.want.base, vi n.heard.want.have_, vs An_heard_input n.heard.input cn_heard_input, vb n.stepped, vy n.told.lateral, vy n.told.vertical, vy n.told.phase, vi n.told.bank, vi n.told.speed, vi n.told.alt, vi n.told.vs], Value.agg #[vy f.label, vy f.from_, vi f.cycle, vs Af_payload f.payload cf_payload], vb came] g [] (fun v ψ o => ∃ (Ar_0_input : Option Addr) (cr_0_input : Nat) (Ar_0_heard_input : Option Addr) (cr_0_heard_input : Nat) (Ar_1_input : Option Addr) (cr_1_input : Nat), v = Value.tuple #[Value.agg #[vi r.1.number, vy r.1.role, vi r.1.steps, vi r.1.alone, vi r.1.stage, vi r.1.cycle, vs Ar_0_input r.1.input cr_0_input, vb r.1.fresh, vb r.1.isHeard, vy r.1.heard.role, vi r.1.heard.steps, vi r.1.heard.want.base, vi r.1.heard.want.have_, vs Ar_0_heard_input r.1.heard.input cr_0_heard_input, vb r.1.stepped, vy r.1.told.lateral, vy r.1.told.vertical, vy r.1.told.phase, vi r.1.told.bank, vi r.1.told.speed, vi r.1.told.alt, vi r.1.told.vs], Value.agg #[vy r.2.1.role, vi r.2.1.steps, vi r.2.1.want.base, vi r.2.1.want.have_, vs Ar_1_input r.2.1.input cr_1_input], vb r.2.2.1, vi r.2.2.2] ∧ o = [] ∧ Arr ψ tyU8 Ar_0_input cr_0_input r.1.input ∧ Arr ψ tyU8 Ar_0_heard_input cr_0_heard_input r.1.heard.input ∧ Arr ψ tyU8 Ar_1_input cr_1_input r.2.1.input) := by
  unfold o61 at hS
  refine xFn Try.f61 (Try.f61.body.getD .skip) 75 ?_
  have nfn_input := fn_input.len
  have nfn_heard_input := fn_heard_input.len
  have nff_payload := ff_payload.len
  refine xSq ?_
  refine xRg ?_
  refine xE eB ?_
  rintro _ _ _ - ⟨b1, rfl, rfl, rfl⟩
  refine xE eB ?_
  rintro _ _ _ - ⟨b2, rfl, rfl, rfl⟩
  refine xE eB ?_
  rintro _ _ _ - ⟨b3, rfl, rfl, rfl⟩
  refine xE eB ?_
  rintro _ _ _ - ⟨b4, rfl, rfl, rfl⟩
  refine xB 2 [] [(2, vb came), (3, vp b1 0), (4, vp b2 0), (6, vp b3 0), (7, vp b4 0)] ?_
  refine xRe ?_
  refine wpq_then ?_
  refine xSq ?_
  refine xSq ?_
  refine xRg ?_
  refine xB 3 [(1, 3)] [(2, vb came), (3, vp b1 0), (4, vp b2 0), (6, vp b3 0), (7, vp b4 0), (15, vb (n.stage != 1))] ?_
  refine xRe ?_
  refine wpq_then ?_
  refine xCd ((n.stage != 1)) (fun h5 => ?_) (fun h5 => ?_)
  · have hS := cond_T h5 hS
    have h5p : ¬ (n.stage = 1) := ne_of_bne_ h5
    refine xSq ?_
    refine xRg ?_
    refine xBo 6 [(0, 3), (2, 1), (3, 0)] [some ⟨b4, 55, (cHeard (⟨0, 0, (⟨0, 0⟩ : Want), ([] : List UInt8)⟩ : Heard) none 0)⟩, some ⟨b3, 96, (cRNode n An_input cn_input An_heard_input cn_heard_input)⟩, some ⟨b2, 100, (cFrame f Af_payload cf_payload)⟩, some ⟨b1, 96, (cRNode n An_input cn_input An_heard_input cn_heard_input)⟩] [(6, vp b3 0), (7, vp b4 0), (8, vb false), (9, vi 8)] ?_
    refine xRe ?_
    refine wpq_then ?_
    have eS := (Option.some.inj hS).symm
    subst eS
    exact xRetC [] [(6, 1), (7, 0)] (Gh.le.refl _) ⟨An_input, cn_input, An_heard_input, cn_heard_input, none, 0, by kernel_rfl, by kernel_rfl, fn_input, fn_heard_input, Arr.nil⟩ (fun _ _ h => h)
  · have hS := cond_F h5 hS
    have h5p : n.stage = 1 := eq_of_bne_false_ h5
    refine xSk ?_
    refine wpq_then ?_
    refine xSub [(2, vb came), (3, vp b1 0), (4, vp b2 0), (6, vp b3 0), (7, vp b4 0)] ?_
    refine xSq ?_
    refine xRg ?_
    refine xBo 2 [(1, 3)] [some ⟨b4, 55, (cHeard (⟨0, 0, (⟨0, 0⟩ : Want), ([] : List UInt8)⟩ : Heard) none 0)⟩, some ⟨b3, 96, (cRNode (⟨0, 0, 0, 0, 0, 0, ([] : List UInt8), false, false, (⟨0, 0, (⟨0, 0⟩ : Want), ([] : List UInt8)⟩ : Heard), false, (⟨0, 0, 0, 0, 0, 0, 0⟩ : Targets)⟩ : RNode) none 0 none 0)⟩, some ⟨b2, 100, (cFrame f Af_payload cf_payload)⟩, some ⟨b1, 96, (cRNode ({ n with stage := 2 }) An_input cn_input An_heard_input cn_heard_input)⟩] [(2, vb came), (3, vp b1 0), (4, vp b2 0), (6, vp b3 0), (7, vp b4 0)] ?_
    refine xRe ?_
    refine wpq_then ?_
    refine xSq ?_
    refine xRg ?_
    refine xBo 5 [(1, 3), (4, 3)] [some ⟨b4, 55, (cHeard (⟨0, 0, (⟨0, 0⟩ : Want), ([] : List UInt8)⟩ : Heard) none 0)⟩, some ⟨b3, 96, (cRNode (⟨0, 0, 0, 0, 0, 0, ([] : List UInt8), false, false, (⟨0, 0, (⟨0, 0⟩ : Want), ([] : List UInt8)⟩ : Heard), false, (⟨0, 0, 0, 0, 0, 0, 0⟩ : Targets)⟩ : RNode) none 0 none 0)⟩, some ⟨b2, 100, (cFrame f Af_payload cf_payload)⟩, some ⟨b1, 96, (cRNode ({ n with alone := (IntKind.i64.wrap (n.alone + 1)), stage := 2 }) An_input cn_input An_heard_input cn_heard_input)⟩] [(2, vb came), (3, vp b1 0), (4, vp b2 0), (6, vp b3 0), (7, vp b4 0)] ?_
    refine xRe ?_
    refine wpq_then ?_
    refine xSq ?_
    refine xSq ?_
    refine xRg ?_
    refine xB 3 [(0, 3), (1, 2)] [(3, vp b1 0), (4, vp b2 0), (6, vp b3 0), (7, vp b4 0), (23, Value.agg #[vi n.number, vy n.role, vi n.steps, vi (IntKind.i64.wrap (n.alone + 1)), vi 2, vi n.cycle, vs An_input n.input cn_input, vb n.fresh, vb n.isHeard, vy n.heard.role, vi n.heard.steps, vi n.heard.want.base, vi n.heard.want.have_, vs An_heard_input n.heard.input cn_heard_input, vb n.stepped, vy n.told.lateral, vy n.told.vertical, vy n.told.phase, vi n.told.bank, vi n.told.speed, vi n.told.alt, vi n.told.vs]), (24, Value.agg #[vy f.label, vy f.from_, vi f.cycle, vs Af_payload f.payload cf_payload]), (25, vb came)] ?_
    obtain ⟨y6, hy6, hS⟩ := letJ_T hS
    refine xE (eC 0 (fun g' lr eb ln => c73 g' ({ n with alone := (IntKind.i64.wrap (n.alone + 1)), stage := 2 }) An_input cn_input An_heard_input cn_heard_input f Af_payload cf_payload (came) (1 : Int) ((fn_input.mono g.br).mono lr) ((fn_heard_input.mono g.br).mono lr) (ff_payload.mono lr) hy6)) ?_
    rintro _ g7 _ e8 ⟨_, rfl, rfl, rfl⟩
    refine xRe ?_
    refine wpq_then ?_
    refine xSub [(3, vp b1 0), (4, vp b2 0), (6, vp b3 0), (7, vp b4 0), (26, vb y6)] ?_
    refine xBindO hS (fun g own sl t9 => ∃ (A9_2_input : Option Addr) (c9_2_input : Nat), own = [some ⟨b4, 55, (cHeard (⟨0, 0, (⟨0, 0⟩ : Want), ([] : List UInt8)⟩ : Heard) none 0)⟩, some ⟨b3, 96, (cRNode (⟨0, 0, 0, 0, 0, 0, ([] : List UInt8), false, false, (⟨0, 0, (⟨0, 0⟩ : Want), ([] : List UInt8)⟩ : Heard), false, (⟨0, 0, 0, 0, 0, 0, 0⟩ : Targets)⟩ : RNode) none 0 none 0)⟩, some ⟨b1, 96, (cRNode ({ n with alone := t9.1, stage := 2, isHeard := t9.2.1, heard := t9.2.2 }) An_input cn_input A9_2_input c9_2_input)⟩] ∧ sl = [(3, vp b1 0), (6, vp b3 0), (7, vp b4 0)] ∧ Arr g.b tyU8 A9_2_input c9_2_input t9.2.2.input) ?_ ?_
    · rintro g10 _ _ t9 e11 ⟨A9_2_input, c9_2_input, rfl, rfl, f9_2_input⟩ hS
      have nf9_2_input := f9_2_input.len
      refine wpq_then ?_
      refine xSq ?_
      refine xRg ?_
      refine xB 16 [(1, 2), (3, 2), (5, 2), (7, 2), (9, 2), (12, 2), (15, 2)] [(3, vp b1 0), (6, vp b3 0), (7, vp b4 0), (40, vi n.number), (42, vy n.role), (44, vi n.steps), (46, vi t9.1), (48, vb t9.2.1), (51, vy t9.2.2.role), (54, vi t9.2.2.steps)] ?_
      obtain ⟨y12, hy12, hS⟩ := letJ_T hS
      refine xE (eC 0 (fun g' lr eb ln => c20 g' (n.number : Int) (n.role : Int) (n.steps : Int) (t9.1 : Int) (t9.2.1) (t9.2.2.role : Int) (t9.2.2.steps : Int) hy12)) ?_
      rintro _ g13 _ e14 ⟨_, rfl, rfl, rfl⟩
      refine xB 1 [] [(3, vp b1 0), (6, vp b3 0), (7, vp b4 0), (12, vy y12)] ?_
      refine xRe ?_
      refine wpq_then ?_
      refine xSq ?_
      refine xSq ?_
      refine xRg ?_
      refine xB 2 [] [(3, vp b1 0), (6, vp b3 0), (7, vp b4 0), (12, vy y12), (57, vb (y12 == 1))] ?_
      refine xRe ?_
      refine wpq_then ?_
      refine xLetJ hS (fun g own sl t15 => own = [some ⟨b4, 55, (cHeard (⟨0, 0, (⟨0, 0⟩ : Want), ([] : List UInt8)⟩ : Heard) none 0)⟩, some ⟨b3, 96, (cRNode (⟨0, 0, 0, 0, 0, 0, ([] : List UInt8), false, false, (⟨0, 0, (⟨0, 0⟩ : Want), ([] : List UInt8)⟩ : Heard), false, (⟨0, 0, 0, 0, 0, 0, 0⟩ : Targets)⟩ : RNode) none 0 none 0)⟩, some ⟨b1, 96, (cRNode ({ n with steps := t15, alone := t9.1, stage := 2, isHeard := t9.2.1, heard := t9.2.2 }) An_input cn_input A9_2_input c9_2_input)⟩] ∧ sl = [(3, vp b1 0), (6, vp b3 0), (7, vp b4 0), (12, vy y12)]) ?_ ?_
      · rintro g16 _ _ t15 e17 ⟨rfl, rfl⟩ hS
        refine wpq_then ?_
        refine xSq ?_
        refine xSq ?_
        refine xRg ?_
        refine xB 3 [] [(3, vp b1 0), (6, vp b3 0), (7, vp b4 0), (12, vy y12), (61, vb (y12 == 2))] ?_
        refine wpr_grp 7 [(3, vp b1 0), (6, vp b3 0), (7, vp b4 0), (12, vy y12), (65, vb ((y12 == 2) && (n.role == 1)))] (fun hk2 => ?_) ?_
        · refine wpq_split 61 (b := (y12 == 2)) (by kernel_rfl) (fun q18 => ?_) (fun q18 => ?_)
          · have q18p : y12 = 2 := eq_of_beq q18
            refine xB 4 [(4, 2)] [(3, vp b1 0), (6, vp b3 0), (7, vp b4 0), (12, vy y12), (65, vb (n.role == 1))] ?_
            refine wpq_re 65 (v := vb (n.role == 1)) (Value.bool (((y12 == 2) && (n.role == 1)))) (by kernel_rfl) (re_and1 q18) ?_
            exact wpq_sub _ (by kernel_rfl) hk2
          · have q18p : ¬ (y12 = 2) := ne_of_beq_false_ q18
            refine xB 4 [] [(3, vp b1 0), (6, vp b3 0), (7, vp b4 0), (12, vy y12), (65, vb false)] ?_
            refine wpq_re 65 (v := vb false) (Value.bool (((y12 == 2) && (n.role == 1)))) (by kernel_rfl) (re_and0 q18) ?_
            exact wpq_sub _ (by kernel_rfl) hk2
        · refine xRe ?_
          refine wpq_then ?_
          refine xLetJ hS (fun g own sl t19 => own = [some ⟨b4, 55, (cHeard (⟨0, 0, (⟨0, 0⟩ : Want), ([] : List UInt8)⟩ : Heard) none 0)⟩, some ⟨b3, 96, (cRNode (⟨0, 0, 0, 0, 0, 0, ([] : List UInt8), false, false, (⟨0, 0, (⟨0, 0⟩ : Want), ([] : List UInt8)⟩ : Heard), false, (⟨0, 0, 0, 0, 0, 0, 0⟩ : Targets)⟩ : RNode) none 0 none 0)⟩, some ⟨b1, 96, (cRNode ({ n with steps := t19.1, alone := t9.1, stage := 2, fresh := t19.2, isHeard := t9.2.1, heard := t9.2.2 }) An_input cn_input A9_2_input c9_2_input)⟩] ∧ sl = [(3, vp b1 0), (6, vp b3 0), (7, vp b4 0), (12, vy y12)]) ?_ ?_
          · rintro g20 _ _ t19 e21 ⟨rfl, rfl⟩ hS
            refine wpq_then ?_
            refine xSq ?_
            refine xRg ?_
            refine xBo 3 [(2, 2)] [some ⟨b4, 55, (cHeard (⟨0, 0, (⟨0, 0⟩ : Want), ([] : List UInt8)⟩ : Heard) none 0)⟩, some ⟨b3, 96, (cRNode (⟨0, 0, 0, 0, 0, 0, ([] : List UInt8), false, false, (⟨0, 0, (⟨0, 0⟩ : Want), ([] : List UInt8)⟩ : Heard), false, (⟨0, 0, 0, 0, 0, 0, 0⟩ : Targets)⟩ : RNode) none 0 none 0)⟩, some ⟨b1, 96, (cRNode (⟨n.number, y12, t19.1, t9.1, 2, n.cycle, n.input, t19.2, t9.2.1, t9.2.2, n.stepped, n.told⟩ : RNode) An_input cn_input A9_2_input c9_2_input)⟩] [(3, vp b1 0), (6, vp b3 0), (7, vp b4 0)] ?_
            refine xRe ?_
            refine wpq_then ?_
            refine xSq ?_
            refine xDr 0 [0, 2, 4] [7, 8] [some ⟨b1, 96, (cRNode (⟨n.number, y12, t19.1, t9.1, 2, n.cycle, n.input, t19.2, t9.2.1, t9.2.2, n.stepped, n.told⟩ : RNode) An_input cn_input A9_2_input c9_2_input)⟩] 9 (fun RG => ?_) (fun _ _ _ _ _ h => h)
            refine xT 4 [0, 1, 2, 3, 4] [(0, 0), (2, 0), (4, 0)] [some 2] [(6, vp b3 0), (7, vp b4 0), (70, Value.agg #[vi n.number, vy y12, vi t19.1, vi t9.1, vi 2, vi n.cycle, vs An_input n.input cn_input, vb t19.2, vb t9.2.1, vy t9.2.2.role, vi t9.2.2.steps, vi t9.2.2.want.base, vi t9.2.2.want.have_, vs A9_2_input t9.2.2.input c9_2_input, vb n.stepped, vy n.told.lateral, vy n.told.vertical, vy n.told.phase, vi n.told.bank, vi n.told.speed, vi n.told.alt, vi n.told.vs]), (72, Value.agg #[vy t9.2.2.role, vi t9.2.2.steps, vi t9.2.2.want.base, vi t9.2.2.want.have_, vs A9_2_input t9.2.2.input c9_2_input]), (74, vb t9.2.1)] RG (Psi.le.refl _) ?_
            refine xO1 (lds := [0, 2, 4]) 5 ?_
            refine xId (lds := [0, 2, 4]) (Psi.le.refl _) (eStL b3 0 1) ?_
            rintro _ _ _ - ⟨rfl, rfl⟩
            refine kk [some 2] ?_
            refine xO1 (lds := [0, 2, 4]) 6 ?_
            refine xId (lds := [0, 2, 4]) (Psi.le.refl _) (eStL b4 0 0) ?_
            rintro _ _ _ - ⟨rfl, rfl⟩
            refine kk [some 2] ?_
            refine xT 0 [7, 8] [] [some 2] [(6, vp b3 0), (7, vp b4 0), (8, vb t9.2.1), (9, vi 0)] RG (Psi.le.refl _) ?_
            refine xAe (lds := [0, 2, 4]) ?_
            refine wpq_then ?_
            have fn_input := fn_input.mono (e8.trans (e11.trans (e14.trans (e17.trans e21)))).b
            have f9_2_input := f9_2_input.mono (e14.trans (e17.trans e21)).b
            have eS := (Option.some.inj hS).symm
            subst eS
            exact xRetC [] [(6, 1), (7, 0)] (e8.trans (e11.trans (e14.trans (e17.trans e21)))) ⟨An_input, cn_input, A9_2_input, c9_2_input, A9_2_input, c9_2_input, by kernel_rfl, by kernel_rfl, fn_input, f9_2_input, f9_2_input⟩ (fun _ _ h => h)
          · intro u19 hS hN19
            refine xCd (((y12 == 2) && (n.role == 1))) (fun h22 => ?_) (fun h22 => ?_)
            · have hS := cond_T h22 hS
              have h22l := (and_true_ h22).1
              have h22r := (and_true_ h22).2
              have h22lp : y12 = 2 := eq_of_beq h22l
              have h22rp : n.role = 1 := eq_of_beq h22r
              refine xRg ?_
              refine xBo 4 [(1, 2), (3, 2)] [some ⟨b4, 55, (cHeard (⟨0, 0, (⟨0, 0⟩ : Want), ([] : List UInt8)⟩ : Heard) none 0)⟩, some ⟨b3, 96, (cRNode (⟨0, 0, 0, 0, 0, 0, ([] : List UInt8), false, false, (⟨0, 0, (⟨0, 0⟩ : Want), ([] : List UInt8)⟩ : Heard), false, (⟨0, 0, 0, 0, 0, 0, 0⟩ : Targets)⟩ : RNode) none 0 none 0)⟩, some ⟨b1, 96, (cRNode ({ n with steps := 0, alone := t9.1, stage := 2, fresh := true, isHeard := t9.2.1, heard := t9.2.2 }) An_input cn_input A9_2_input c9_2_input)⟩] [(3, vp b1 0), (6, vp b3 0), (7, vp b4 0), (12, vy y12)] ?_
              refine xRe ?_
              refine xSub [(3, vp b1 0), (6, vp b3 0), (7, vp b4 0), (12, vy y12)] ?_
              have eS := hS.symm
              exact hN19 _ eS _ _ _ (Gh.le.refl _) ⟨by kernel_rfl, by kernel_rfl⟩
            · have hS := cond_F h22 hS
              refine xSk ?_
              refine xSub [(3, vp b1 0), (6, vp b3 0), (7, vp b4 0), (12, vy y12)] ?_
              have eS := hS.symm
              exact hN19 _ eS _ _ _ (Gh.le.refl _) ⟨by kernel_rfl, by kernel_rfl⟩
      · intro u15 hS hN15
        refine xCd ((y12 == 1)) (fun h23 => ?_) (fun h23 => ?_)
        · have hS := cond_T h23 hS
          have h23p : y12 = 1 := eq_of_beq h23
          refine xRg ?_
          refine xBo 2 [(1, 2)] [some ⟨b4, 55, (cHeard (⟨0, 0, (⟨0, 0⟩ : Want), ([] : List UInt8)⟩ : Heard) none 0)⟩, some ⟨b3, 96, (cRNode (⟨0, 0, 0, 0, 0, 0, ([] : List UInt8), false, false, (⟨0, 0, (⟨0, 0⟩ : Want), ([] : List UInt8)⟩ : Heard), false, (⟨0, 0, 0, 0, 0, 0, 0⟩ : Targets)⟩ : RNode) none 0 none 0)⟩, some ⟨b1, 96, (cRNode ({ n with steps := 0, alone := t9.1, stage := 2, isHeard := t9.2.1, heard := t9.2.2 }) An_input cn_input A9_2_input c9_2_input)⟩] [(3, vp b1 0), (6, vp b3 0), (7, vp b4 0), (12, vy y12)] ?_
          refine xRe ?_
          refine xSub [(3, vp b1 0), (6, vp b3 0), (7, vp b4 0), (12, vy y12)] ?_
          have eS := hS.symm
          exact hN15 _ eS _ _ _ (Gh.le.refl _) ⟨by kernel_rfl, by kernel_rfl⟩
        · have hS := cond_F h23 hS
          have h23p : ¬ (y12 = 1) := ne_of_beq_false_ h23
          refine xSk ?_
          refine xSub [(3, vp b1 0), (6, vp b3 0), (7, vp b4 0), (12, vy y12)] ?_
          have eS := hS.symm
          exact hN15 _ eS _ _ _ (Gh.le.refl _) ⟨by kernel_rfl, by kernel_rfl⟩
    · intro u9 hS hN9
      refine xCd (y6) (fun h24 => ?_) (fun h24 => ?_)
      · have hS := cond_T h24 hS
        refine xSq ?_
        refine xRg ?_
        refine xB 2 [(1, 2)] [(3, vp b1 0), (6, vp b3 0), (7, vp b4 0), (29, vs Af_payload f.payload cf_payload)] ?_
        have ff_payload := ff_payload.mono e8.r
        obtain ⟨y25, hy25, hS⟩ := bindO_T hS
        refine xE (eC 0 (fun g' lr eb ln => c30 g' (f.payload : List UInt8) Af_payload cf_payload (ff_payload.mono lr) hy25)) ?_
        rintro _ g26 _ e27 ⟨_, rfl, A25_0_input, c25_0_input, rfl, rfl, f25_0_input⟩
        have nf25_0_input := f25_0_input.len
        refine xB 3 [] [(3, vp b1 0), (6, vp b3 0), (7, vp b4 0), (31, Value.agg #[vy y25.1.role, vi y25.1.steps, vi y25.1.want.base, vi y25.1.want.have_, vs A25_0_input y25.1.input c25_0_input]), (32, vi y25.2)] ?_
        refine xE eB ?_
        rintro _ _ _ - ⟨b28, rfl, rfl, rfl⟩
        refine xBo 2 [(7, 0)] [some ⟨b28, 55, (cHeard y25.1 A25_0_input c25_0_input)⟩, some ⟨b4, 55, (cHeard (⟨0, 0, (⟨0, 0⟩ : Want), ([] : List UInt8)⟩ : Heard) none 0)⟩, some ⟨b3, 96, (cRNode (⟨0, 0, 0, 0, 0, 0, ([] : List UInt8), false, false, (⟨0, 0, (⟨0, 0⟩ : Want), ([] : List UInt8)⟩ : Heard), false, (⟨0, 0, 0, 0, 0, 0, 0⟩ : Targets)⟩ : RNode) none 0 none 0)⟩, some ⟨b2, 100, (cFrame f Af_payload cf_payload)⟩, some ⟨b1, 96, (cRNode ({ n with alone := (IntKind.i64.wrap (n.alone + 1)), stage := 2 }) An_input cn_input An_heard_input cn_heard_input)⟩] [(3, vp b1 0), (6, vp b3 0), (7, vp b4 0), (10, vp b28 0), (11, vi y25.2)] ?_
        refine xRe ?_
        refine wpq_then ?_
        refine xSq ?_
        refine xRg ?_
        refine xB 2 [] [(3, vp b1 0), (6, vp b3 0), (7, vp b4 0), (10, vp b28 0), (34, vb (y25.2 == 0))] ?_
        refine xRe ?_
        refine wpq_then ?_
        refine xLetJ hS (fun g own sl t29 => ∃ (A29_2_input : Option Addr) (c29_2_input : Nat), own = [some ⟨b4, 55, (cHeard (⟨0, 0, (⟨0, 0⟩ : Want), ([] : List UInt8)⟩ : Heard) none 0)⟩, some ⟨b3, 96, (cRNode (⟨0, 0, 0, 0, 0, 0, ([] : List UInt8), false, false, (⟨0, 0, (⟨0, 0⟩ : Want), ([] : List UInt8)⟩ : Heard), false, (⟨0, 0, 0, 0, 0, 0, 0⟩ : Targets)⟩ : RNode) none 0 none 0)⟩, some ⟨b1, 96, (cRNode ({ n with alone := t29.1, stage := 2, isHeard := t29.2.1, heard := t29.2.2 }) An_input cn_input A29_2_input c29_2_input)⟩] ∧ sl = [(3, vp b1 0), (6, vp b3 0), (7, vp b4 0)] ∧ Arr g.b tyU8 A29_2_input c29_2_input t29.2.2.input) ?_ ?_
        · rintro g30 _ _ t29 e31 ⟨A29_2_input, c29_2_input, rfl, rfl, f29_2_input⟩ hS
          have nf29_2_input := f29_2_input.len
          refine xSub [(3, vp b1 0), (6, vp b3 0), (7, vp b4 0)] ?_
          have eS := (Option.some.inj hS).symm
          exact hN9 _ eS _ _ _ (e27.trans e31) ⟨A29_2_input, c29_2_input, by kernel_rfl, by kernel_rfl, f29_2_input⟩
        · intro u29 hS hN29
          refine xCd ((y25.2 == 0)) (fun h32 => ?_) (fun h32 => ?_)
          · have hS := cond_T h32 hS
            have h32p : y25.2 = 0 := eq_of_beq h32
            refine xDr 0 [0] [4, 6, 3, 5] [some ⟨b28, 55, (cHeard y25.1 A25_0_input c25_0_input)⟩, some ⟨b4, 55, (cHeard (⟨0, 0, (⟨0, 0⟩ : Want), ([] : List UInt8)⟩ : Heard) none 0)⟩, some ⟨b3, 96, (cRNode (⟨0, 0, 0, 0, 0, 0, ([] : List UInt8), false, false, (⟨0, 0, (⟨0, 0⟩ : Want), ([] : List UInt8)⟩ : Heard), false, (⟨0, 0, 0, 0, 0, 0, 0⟩ : Targets)⟩ : RNode) none 0 none 0)⟩, some ⟨b2, 100, (cFrame f Af_payload cf_payload)⟩] 7 (fun RG => ?_) (fun _ _ _ _ _ h => h)
            refine xT 5 [0, 1] [(0, 0)] [some 0, some 1, some 2, some 3] [(3, vp b1 0), (6, vp b3 0), (7, vp b4 0), (35, Value.agg #[vy y25.1.role, vi y25.1.steps, vi y25.1.want.base, vi y25.1.want.have_, vs A25_0_input y25.1.input c25_0_input]), (36, vp b1 8)] RG (Psi.le.refl _) ?_
            refine xO1 (lds := [0]) 2 ?_
            refine xId (lds := [0]) (Psi.le.refl _) (eStL b1 8 4) ?_
            rintro _ _ _ - ⟨rfl, rfl⟩
            refine kk [some 0, some 1, some 2, some 3] ?_
            refine xT 3 [3] [] [some 0, some 1, some 2, some 3] [(3, vp b1 0), (6, vp b3 0), (7, vp b4 0), (35, Value.agg #[vy y25.1.role, vi y25.1.steps, vi y25.1.want.base, vi y25.1.want.have_, vs A25_0_input y25.1.input c25_0_input]), (37, vp b1 9)] RG (Psi.le.refl _) ?_
            refine xO1 (lds := [0]) 4 ?_
            refine xId (lds := [0]) (Psi.le.refl _) (eStL b1 9 4) ?_
            rintro _ _ _ - ⟨rfl, rfl⟩
            refine kf ?_
            refine xT 1 [5] [] [some 0, some 1, some 2, some 3] [(3, vp b1 0), (6, vp b3 0), (7, vp b4 0), (38, vp b1 3)] RG (Psi.le.refl _) ?_
            refine xO1 (lds := [0]) 6 ?_
            refine xId (lds := [0]) (Psi.le.refl _) (eStL b1 3 4) ?_
            rintro _ _ _ - ⟨rfl, rfl⟩
            refine kf ?_
            refine xAe (lds := [0]) ?_
            refine xSel [some 1, some 2, some 4] ?_
            refine xSub [(3, vp b1 0), (6, vp b3 0), (7, vp b4 0)] ?_
            have eS := hS.symm
            exact hN29 _ eS _ _ _ (Gh.le.refl _) ⟨A25_0_input, c25_0_input, by kernel_rfl, by kernel_rfl, f25_0_input⟩
          · have hS := cond_F h32 hS
            have h32p : ¬ (y25.2 = 0) := ne_of_beq_false_ h32
            refine xSk ?_
            have fn_heard_input := fn_heard_input.mono (e8.trans e27).b
            refine xSel [some 1, some 2, some 4] ?_
            refine xSub [(3, vp b1 0), (6, vp b3 0), (7, vp b4 0)] ?_
            have eS := hS.symm
            exact hN29 _ eS _ _ _ (Gh.le.refl _) ⟨An_heard_input, cn_heard_input, by kernel_rfl, by kernel_rfl, fn_heard_input⟩
      · have hS := cond_F h24 hS
        refine xSk ?_
        have fn_heard_input := fn_heard_input.mono e8.b
        refine xSel [some 0, some 1, some 3] ?_
        refine xSub [(3, vp b1 0), (6, vp b3 0), (7, vp b4 0)] ?_
        have eS := (Option.some.inj hS).symm
        exact hN9 _ eS _ _ _ (Gh.le.refl _) ⟨An_heard_input, cn_heard_input, by kernel_rfl, by kernel_rfl, fn_heard_input⟩

def o27 (h : Heard) : Heard :=
  (h)
set_option maxRecDepth 100000 in
theorem c27 (g : Gh) (h : Heard) (Ah_input : Option Addr) (ch_input : Nat) (fh_input : Arr g.b tyU8 Ah_input ch_input h.input) {r : Heard} (hS : o27 h = r) :
    Ctr Try.prog 27 [Value.agg #[vy h.role, vi h.steps, vi h.want.base, vi h.want.have_, vs Ah_input h.input ch_input]] g [] (fun v ψ o => ∃ (Ar_0_input : Option Addr) (cr_0_input : Nat), v = Value.agg #[vy r.role, vi r.steps, vi r.want.base, vi r.want.have_, vs Ar_0_input r.input cr_0_input] ∧ o = [] ∧ Arr ψ tyU8 Ar_0_input cr_0_input r.input) := by
  unfold o27 at hS
  refine xFn Try.f27 (Try.f27.body.getD .skip) 17 ?_
  have nfh_input := fh_input.len
  refine xSq ?_
  refine xRg ?_
  refine xE eB ?_
  rintro _ _ _ - ⟨b1, rfl, rfl, rfl⟩
  refine xE eB ?_
  rintro _ _ _ - ⟨b2, rfl, rfl, rfl⟩
  refine xRe ?_
  refine wpq_then ?_
  refine xSub [(1, vp b1 0), (2, vp b2 0)] ?_
  refine xSq ?_
  refine xRg ?_
  refine xBo 15 [(1, 1), (3, 1), (6, 1), (9, 1), (12, 1), (14, 0)] [some ⟨b2, 55, (cHeard h Ah_input ch_input)⟩, some ⟨b1, 50, (cHeard h Ah_input ch_input)⟩] [(2, vp b2 0)] ?_
  refine xRe ?_
  refine wpq_then ?_
  have eS := hS.symm
  subst eS
  exact xRetC [] [(2, 0)] (Gh.le.refl _) ⟨Ah_input, ch_input, by kernel_rfl, by kernel_rfl, fh_input⟩ (fun _ _ h => h)

def o29 (a : Heard) (b : Heard) : Bool :=
  ((((((a.role == b.role) && (a.steps == b.steps)) && ((a.want.base == b.want.base) && (a.want.have_ == b.want.have_))) && (a.input == b.input))))
set_option maxRecDepth 100000 in
theorem c29 (g : Gh) (a : Heard) (Aa_input : Option Addr) (ca_input : Nat) (b : Heard) (Ab_input : Option Addr) (cb_input : Nat) (fa_input : Arr g.r tyU8 Aa_input ca_input a.input) (fb_input : Arr g.r tyU8 Ab_input cb_input b.input) {r : Bool} (hS : o29 a b = r) :
    Ctr Try.prog 29 [Value.agg #[vy a.role, vi a.steps, vi a.want.base, vi a.want.have_, vs Aa_input a.input ca_input], Value.agg #[vy b.role, vi b.steps, vi b.want.base, vi b.want.have_, vs Ab_input b.input cb_input]] g [] (fun v ψ o => v = vb r ∧ o = []) := by
  unfold o29 at hS
  refine xFn Try.f29 (Try.f29.body.getD .skip) 33 ?_
  have nfa_input := fa_input.len
  have nfb_input := fb_input.len
  refine xSq ?_
  refine xRg ?_
  refine xE eB ?_
  rintro _ _ _ - ⟨b1, rfl, rfl, rfl⟩
  refine xE eB ?_
  rintro _ _ _ - ⟨b2, rfl, rfl, rfl⟩
  refine xB 1 [] [(2, vp b1 0), (3, vp b2 0)] ?_
  refine xRe ?_
  refine wpq_then ?_
  refine xSq ?_
  refine xRg ?_
  refine xB 6 [(1, 1), (3, 0)] [(2, vp b1 0), (3, vp b2 0), (10, vb (a.role == b.role))] ?_
  refine wpr_grp 12 [(2, vp b1 0), (3, vp b2 0), (16, vb ((a.role == b.role) && (a.steps == b.steps)))] (fun hk5 => ?_) ?_
  · refine wpq_split 10 (b := (a.role == b.role)) (by kernel_rfl) (fun q3 => ?_) (fun q3 => ?_)
    · have q3p : a.role = b.role := eq_of_beq q3
      refine xB 6 [(7, 1), (9, 0)] [(2, vp b1 0), (3, vp b2 0), (16, vb (a.steps == b.steps))] ?_
      refine wpq_re 16 (v := vb (a.steps == b.steps)) (Value.bool (((a.role == b.role) && (a.steps == b.steps)))) (by kernel_rfl) (re_and1 q3) ?_
      exact wpq_sub _ (by kernel_rfl) hk5
    · have q3p : ¬ (a.role = b.role) := ne_of_beq_false_ q3
      refine xB 6 [] [(2, vp b1 0), (3, vp b2 0), (16, vb false)] ?_
      refine wpq_re 16 (v := vb false) (Value.bool (((a.role == b.role) && (a.steps == b.steps)))) (by kernel_rfl) (re_and0 q3) ?_
      exact wpq_sub _ (by kernel_rfl) hk5
  · refine xB 1 [] [(2, vp b1 0), (3, vp b2 0), (17, vb ((a.role == b.role) && (a.steps == b.steps)))] ?_
    refine wpr_grp 19 [(2, vp b1 0), (3, vp b2 0), (23, vb (((a.role == b.role) && (a.steps == b.steps)) && ((a.want.base == b.want.base) && (a.want.have_ == b.want.have_))))] (fun hk12 => ?_) ?_
    · refine wpq_split 17 (b := ((a.role == b.role) && (a.steps == b.steps))) (by kernel_rfl) (fun q4 => ?_) (fun q4 => ?_)
      · have q4l := (and_true_ q4).1
        have q4r := (and_true_ q4).2
        have q4lp : a.role = b.role := eq_of_beq q4l
        have q4rp : a.steps = b.steps := eq_of_beq q4r
        refine xB 4 [(14, 1), (16, 0)] [(2, vp b1 0), (3, vp b2 0), (17, vb true), (19, Value.agg #[vi a.want.base, vi a.want.have_]), (21, Value.agg #[vi b.want.base, vi b.want.have_])] ?_
        refine xV (qEqA (((a.want.base == b.want.base) && (a.want.have_ == b.want.have_)))) ?_
        refine xB 1 [] [(2, vp b1 0), (3, vp b2 0), (23, vb ((a.want.base == b.want.base) && (a.want.have_ == b.want.have_)))] ?_
        refine wpq_re 23 (v := vb ((a.want.base == b.want.base) && (a.want.have_ == b.want.have_))) (Value.bool ((((a.role == b.role) && (a.steps == b.steps)) && ((a.want.base == b.want.base) && (a.want.have_ == b.want.have_))))) (by kernel_rfl) (re_and1 q4) ?_
        exact wpq_sub _ (by kernel_rfl) hk12
      · refine xB 6 [] [(2, vp b1 0), (3, vp b2 0), (23, vb false)] ?_
        refine wpq_re 23 (v := vb false) (Value.bool ((((a.role == b.role) && (a.steps == b.steps)) && ((a.want.base == b.want.base) && (a.want.have_ == b.want.have_))))) (by kernel_rfl) (re_and0 q4) ?_
        exact wpq_sub _ (by kernel_rfl) hk12
    · refine xB 1 [] [(2, vp b1 0), (3, vp b2 0), (24, vb (((a.role == b.role) && (a.steps == b.steps)) && ((a.want.base == b.want.base) && (a.want.have_ == b.want.have_))))] ?_
      refine wpr_grp 28 [(32, vb ((((a.role == b.role) && (a.steps == b.steps)) && ((a.want.base == b.want.base) && (a.want.have_ == b.want.have_))) && (a.input == b.input)))] (fun hk19 => ?_) ?_
      · refine wpq_split 24 (b := (((a.role == b.role) && (a.steps == b.steps)) && ((a.want.base == b.want.base) && (a.want.have_ == b.want.have_)))) (by kernel_rfl) (fun q5 => ?_) (fun q5 => ?_)
        · have q5l := (and_true_ q5).1
          have q5r := (and_true_ q5).2
          have q5ll := (and_true_ q5l).1
          have q5lr := (and_true_ q5l).2
          have q5llp : a.role = b.role := eq_of_beq q5ll
          have q5lrp : a.steps = b.steps := eq_of_beq q5lr
          have q5rl := (and_true_ q5r).1
          have q5rr := (and_true_ q5r).2
          have q5rlp : a.want.base = b.want.base := eq_of_beq q5rl
          have q5rrp : a.want.have_ = b.want.have_ := eq_of_beq q5rr
          refine xB 2 [(21, 1)] [(3, vp b2 0), (24, vb true), (26, vs Aa_input a.input ca_input)] ?_
          refine xV (qStr fa_input) ?_
          refine xB 2 [(24, 0)] [(24, vb true), (27, vt a.input), (29, vs Ab_input b.input cb_input)] ?_
          refine xV (qStr fb_input) ?_
          refine xV (qEqS (a.input) (b.input)) ?_
          refine xB 1 [] [(32, vb (a.input == b.input))] ?_
          refine wpq_re 32 (v := vb (a.input == b.input)) (Value.bool (((((a.role == b.role) && (a.steps == b.steps)) && ((a.want.base == b.want.base) && (a.want.have_ == b.want.have_))) && (a.input == b.input)))) (by kernel_rfl) (re_and1 q5) ?_
          exact wpq_sub _ (by kernel_rfl) hk19
        · refine xB 8 [] [(32, vb false)] ?_
          refine wpq_re 32 (v := vb false) (Value.bool (((((a.role == b.role) && (a.steps == b.steps)) && ((a.want.base == b.want.base) && (a.want.have_ == b.want.have_))) && (a.input == b.input)))) (by kernel_rfl) (re_and0 q5) ?_
          exact wpq_sub _ (by kernel_rfl) hk19
      · refine xB 1 [] [(4, vb ((((a.role == b.role) && (a.steps == b.steps)) && ((a.want.base == b.want.base) && (a.want.have_ == b.want.have_))) && (a.input == b.input)))] ?_
        refine xRe ?_
        refine wpq_then ?_
        have eS := hS.symm
        subst eS
        exact xRet [] [4] (Gh.le.refl _) ⟨by kernel_rfl, by kernel_rfl⟩ (fun _ _ h => h)

def o72 (n : Node) : Bool :=
  (((n.is_ && (n.heard.role == 3))))
set_option maxRecDepth 100000 in
theorem c72 (g : Gh) (a_n : Addr) (n : Node) (An_input : Option Addr) (cn_input : Nat) (An_heard_input : Option Addr) (cn_heard_input : Nat) (An_set__in_ : Option Addr) (cn_set__in_ : Nat) (hc_n : Cells g.r a_n (cNode n An_input cn_input An_heard_input cn_heard_input An_set__in_ cn_set__in_)) (fn_input : Arr g.r tyU8 An_input cn_input n.input) (fn_heard_input : Arr g.r tyU8 An_heard_input cn_heard_input n.heard.input) (fn_set__in_ : Arr g.r tyU8 An_set__in_ cn_set__in_ n.set_.in_) {r : Bool} (hS : o72 n = r) :
    Ctr Try.prog 72 [Value.pointer (some a_n)] g [] (fun v ψ o => v = vb r ∧ o = []) := by
  unfold o72 at hS
  refine xFn Try.f72 (Try.f72.body.getD .skip) 15 ?_
  have nfn_input := fn_input.len
  have nfn_heard_input := fn_heard_input.len
  have nfn_set__in_ := fn_set__in_.len
  refine xSq ?_
  refine xRg ?_
  refine xB 1 [] [(0, Value.pointer (some a_n))] ?_
  refine xRe ?_
  refine wpq_then ?_
  refine xSq ?_
  refine xRg ?_
  refine xB 3 [] [(0, Value.pointer (some a_n)), (5, Value.pointer (some (Addr.add a_n 12)))] ?_
  refine xV (qLdP a_n 12 hc_n) ?_
  refine xB 1 [] [(0, Value.pointer (some a_n)), (7, vb n.is_)] ?_
  refine wpr_grp 12 [(14, vb (n.is_ && (n.heard.role == 3)))] (fun hk4 => ?_) ?_
  · refine wpq_split 7 (b := n.is_) (by kernel_rfl) (fun q1 => ?_) (fun q1 => ?_)
    · refine xB 4 [] [(7, vb true), (11, Value.pointer (some (Addr.add a_n 7)))] ?_
      refine xV (qLdP a_n 7 hc_n) ?_
      refine xB 2 [] [(14, vb (n.heard.role == 3))] ?_
      refine wpq_re 14 (v := vb (n.heard.role == 3)) (Value.bool ((n.is_ && (n.heard.role == 3)))) (by kernel_rfl) (re_and1 q1) ?_
      exact wpq_sub _ (by kernel_rfl) hk4
    · refine xB 7 [] [(14, vb false)] ?_
      refine wpq_re 14 (v := vb false) (Value.bool ((n.is_ && (n.heard.role == 3)))) (by kernel_rfl) (re_and0 q1) ?_
      exact wpq_sub _ (by kernel_rfl) hk4
  · refine xB 1 [] [(2, vb (n.is_ && (n.heard.role == 3)))] ?_
    refine xRe ?_
    refine wpq_then ?_
    have eS := hS.symm
    subst eS
    exact xRet [] [2] (Gh.le.refl _) ⟨by kernel_rfl, by kernel_rfl⟩ (fun _ _ h => h)

def o31 (x : Sett) : Option ((List UInt8) × Int) :=
  (cond (decide (x.steps < 0)) (some ((([] : List UInt8), (1 : Int)))) (bindO (τ := (List UInt8) × Bool × (List UInt8) × Bool × Int) (o17 (x.in_ : List UInt8)) fun y3 => (cond ((y3.2.2.2.2 != 0)) (some ((([] : List UInt8), (y3.2.2.2.2 : Int)))) (letJ (τ := Nat) (cond (x.fresh) (1) (0)) fun t7 => (bindO (τ := (List UInt8)) (o53 ([] : List UInt8) (x.steps : Int) (8 : Int)) fun y11 => (grd (decide (((y11).length + (([(u8 ((t7 : Nat) : Int))] : List UInt8)).length) * 1 ≤ 140737488355328)) (grd (decide ((((y11 ++ ([(u8 ((t7 : Nat) : Int))] : List UInt8))).length + (x.in_).length) * 1 ≤ 140737488355328)) (some (((((y11 ++ ([(u8 ((t7 : Nat) : Int))] : List UInt8)) ++ x.in_) : List UInt8), (0 : Int)))))))))))
set_option maxRecDepth 100000 in
theorem c31 (g : Gh) (x : Sett) (Ax_in_ : Option Addr) (cx_in_ : Nat) (fx_in_ : Arr g.r tyU8 Ax_in_ cx_in_ x.in_) {r : (List UInt8) × Int} (hS : o31 x = some r) :
    Ctr Try.prog 31 [Value.agg #[vi x.steps, vi x.cycle, vb x.fresh, vs Ax_in_ x.in_ cx_in_]] g [] (fun v ψ o => ∃ (Ar_0 : Option Addr) (cr_0 : Nat) (kr_0 : Option Bk), v = Value.tuple #[vs Ar_0 r.1 cr_0, vi r.2] ∧ o = [kr_0] ∧ Buf ψ tyU8 5 (.slice Ar_0 (r.1).length cr_0) kr_0 r.1) := by
  unfold o31 at hS
  refine xFn Try.f31 (Try.f31.body.getD .skip) 36 ?_
  have nfx_in_ := fx_in_.len
  refine xSq ?_
  refine xRg ?_
  refine xE eB ?_
  rintro _ _ _ - ⟨b1, rfl, rfl, rfl⟩
  refine xB 2 [] [(1, vp b1 0)] ?_
  refine xRe ?_
  refine wpq_then ?_
  refine xSq ?_
  refine xSq ?_
  refine xRg ?_
  refine xB 3 [(1, 0)] [(1, vp b1 0), (12, vb (decide (x.steps < 0)))] ?_
  refine xRe ?_
  refine wpq_then ?_
  refine xCd (decide (x.steps < 0)) (fun h2 => ?_) (fun h2 => ?_)
  · have hS := cond_T h2 hS
    have h2p := of_decide_eq_true h2
    refine xSq ?_
    refine xRg ?_
    refine xB 2 [] [(2, Value.slice none 0 0), (3, vi 1)] ?_
    refine xRe ?_
    refine wpq_then ?_
    have eS := (Option.some.inj hS).symm
    subst eS
    exact xRet [none] [2, 3] (Gh.le.refl _) ⟨none, 0, none, by kernel_rfl, by kernel_rfl, Buf.nil⟩ (fun _ _ h => h)
  · have hS := cond_F h2 hS
    have h2p := of_decide_eq_false h2
    refine xSk ?_
    refine wpq_then ?_
    refine xSub [(1, vp b1 0)] ?_
    refine xSq ?_
    refine xSq ?_
    refine xRg ?_
    refine xB 2 [(1, 0)] [(1, vp b1 0), (15, vs Ax_in_ x.in_ cx_in_)] ?_
    obtain ⟨y3, hy3, hS⟩ := bindO_T hS
    refine xE (eC 0 (fun g' lr eb ln => c17 g' (x.in_ : List UInt8) Ax_in_ cx_in_ (fx_in_.mono lr) hy3)) ?_
    rintro _ g4 _ e5 ⟨_, rfl, A3_0, c3_0, k3_0, A3_2, c3_2, k3_2, rfl, rfl, h3_0, h3_2⟩
    have nh3_0 := h3_0.len
    have nh3_2 := h3_2.len
    refine xB 11 [] [(1, vp b1 0), (8, vi y3.2.2.2.2)] ?_
    refine xRe ?_
    refine wpq_then ?_
    refine xSq ?_
    refine xRg ?_
    refine xB 2 [] [(1, vp b1 0), (8, vi y3.2.2.2.2), (23, vb (y3.2.2.2.2 != 0))] ?_
    refine xRe ?_
    refine wpq_then ?_
    refine xCd ((y3.2.2.2.2 != 0)) (fun h6 => ?_) (fun h6 => ?_)
    · have hS := cond_T h6 hS
      have h6p : ¬ (y3.2.2.2.2 = 0) := ne_of_bne_ h6
      refine xSq ?_
      refine xRg ?_
      refine xB 3 [] [(2, Value.slice none 0 0), (3, vi y3.2.2.2.2)] ?_
      refine xRe ?_
      refine wpq_then ?_
      have eS := (Option.some.inj hS).symm
      subst eS
      exact xRet [none] [2, 3] e5 ⟨none, 0, none, by kernel_rfl, by kernel_rfl, Buf.nil⟩ (fun _ _ h => h)
    · have hS := cond_F h6 hS
      have h6p : y3.2.2.2.2 = 0 := eq_of_bne_false_ h6
      refine xSk ?_
      refine wpq_then ?_
      refine xSub [(1, vp b1 0)] ?_
      refine xSq ?_
      refine xRg ?_
      refine xB 1 [] [(1, vp b1 0), (9, vy 0)] ?_
      refine xRe ?_
      refine wpq_then ?_
      refine xSq ?_
      refine xSq ?_
      refine xRg ?_
      refine xB 2 [(1, 2)] [(1, vp b1 0), (9, vy 0), (26, vb x.fresh)] ?_
      refine xRe ?_
      refine wpq_then ?_
      refine xLetJ hS (fun g own sl t7 => own = [some ⟨b1, 64, (cSett x Ax_in_ cx_in_)⟩] ∧ sl = [(1, vp b1 0), (9, vy ((t7 : Nat) : Int))] ∧ (0 ≤ t7 ∧ t7 ≤ 1)) ?_ ?_
      · rintro g8 _ _ t7 e9 ⟨rfl, rfl, ⟨r7_0l, r7_0r⟩⟩ hS
        refine wpq_then ?_
        refine xSq ?_
        refine xDr 0 [1, 7] [9, 10] [some ⟨b1, 64, (cSett x Ax_in_ cx_in_)⟩] 11 (fun RG => ?_) (fun _ _ _ _ _ h => h)
        refine xT 6 [0, 1, 3, 6, 7] [(1, 0), (7, 0)] [some 0] [(28, vi x.steps), (30, vy ((t7 : Nat) : Int)), (34, vs Ax_in_ x.in_ cx_in_)] RG (Psi.le.refl _) ?_
        obtain ⟨y11, hy11, hS⟩ := bindO_T hS
        refine wpa_meet (fun g own sl => ∃ (A11_0 : Option Addr) (c11_0 : Nat) (k11_0 : Option Bk) (A14 : Option Addr) (c14 : Nat) (k14 : Option Bk), own = [k14, k11_0, some ⟨b1, 64, (cSett x Ax_in_ cx_in_)⟩] ∧ sl = [(29, vs A11_0 y11 c11_0), (31, vs A14 ([(u8 ((t7 : Nat) : Int))] : List UInt8) c14), (34, vs Ax_in_ x.in_ cx_in_)] ∧ Buf g.b tyU8 5 (.slice A11_0 (y11).length c11_0) k11_0 y11 ∧ Buf g.b tyU8 5 (.slice A14 (([(u8 ((t7 : Nat) : Int))] : List UInt8)).length c14) k14 ([(u8 ((t7 : Nat) : Int))] : List UInt8)) 4 [true, true, true, true, true, false, true, true, false, false, false] ?_ (fun hD10 => ?_)
        · rintro g211 _ _ e212 ⟨A11_0, c11_0, k11_0, A14, c14, k14, rfl, rfl, h11_0, h14⟩
          have nh11_0 := h11_0.len
          have nh14 := h14.len
          obtain ⟨nw213, hp213, hs213⟩ := h14.srcO (g := g211)
          obtain ⟨q214, hS⟩ := grd_T hS
          have q214p := of_decide_eq_true q214
          refine xO1 (lds := [1, 7]) 5 ?_
          refine xIe (lds := [1, 7]) e212.r (eApp (T := tyU8) (p := g211.b) (et := 5) (bytes := 1) (xs := (y11 : List UInt8)) (ys := (([(u8 ((t7 : Nat) : Int))] : List UInt8) : List UInt8)) 1 h11_0 rfl (fun w hs => hs213 0 w _ hs (by kernel_rfl)) hp213 (by first | omega | (simp only [List.length_cons, List.length_nil] at *; omega)) (by first | omega | (simp only [List.length_cons, List.length_nil] at *; omega))) ?_
          rintro _ _ _ - ⟨A213, c213, k213, rfl, rfl, rfl, h213⟩
          refine kk [some 2] ?_
          have nh213 := h213.len
          have hz213 : ((y11 ++ ([(u8 ((t7 : Nat) : Int))] : List UInt8)) : List UInt8).length = (y11).length + (([(u8 ((t7 : Nat) : Int))] : List UInt8)).length := List.length_append
          have fx_in_ := fx_in_.mono (e5.trans (e9.trans e212)).r
          obtain ⟨nw215, hp215, hs215⟩ := fx_in_.srcR
          obtain ⟨q216, hS⟩ := grd_T hS
          have q216p := of_decide_eq_true q216
          refine xO1 (lds := [1, 7]) 8 ?_
          refine xIe (lds := [1, 7]) e212.r (eApp (T := tyU8) (p := g211.b) (et := 5) (bytes := 1) (xs := ((y11 ++ ([(u8 ((t7 : Nat) : Int))] : List UInt8)) : List UInt8)) (ys := (x.in_ : List UInt8)) 1 h213 rfl (fun w hs => hs215 w _ hs) (flatU8.reps hp215) (by first | omega | (simp only [List.length_cons, List.length_nil] at *; omega)) (by first | omega | (simp only [List.length_cons, List.length_nil] at *; omega))) ?_
          rintro _ _ _ - ⟨A215, c215, k215, rfl, rfl, rfl, h215⟩
          refine kk [some 2] ?_
          have nh215 := h215.len
          have hz215 : (((y11 ++ ([(u8 ((t7 : Nat) : Int))] : List UInt8)) ++ x.in_) : List UInt8).length = ((y11 ++ ([(u8 ((t7 : Nat) : Int))] : List UInt8))).length + (x.in_).length := List.length_append
          refine xT 0 [9, 10] [] [some 2] [(2, vs A215 ((y11 ++ ([(u8 ((t7 : Nat) : Int))] : List UInt8)) ++ x.in_) c215), (3, vi 0)] RG e212.r ?_
          refine xAe (lds := [1, 7]) ?_
          refine wpq_then ?_
          have eS := (Option.some.inj hS).symm
          subst eS
          exact xRet [some 1] [2, 3] (e5.trans (e9.trans e212)) ⟨A215, c215, k215, by kernel_rfl, by kernel_rfl, h215⟩ (fun _ _ h => h)
        · refine xO2 (lds := [1, 7]) 2 4 ?_ ?_
          · refine xSel [none, some 0] ?_
            refine xIe (lds := [1, 7]) (Psi.le.refl _) (eC 1 (fun g' lr eb ln => c53 g' ([] : List UInt8) none 0 none (x.steps : Int) (8 : Int) Buf.nil hy11)) ?_
            rintro _ g218 _ e219 ⟨_, rfl, A11_0, c11_0, k11_0, rfl, rfl, h11_0⟩
            refine kk [some 1] ?_
            have nh11_0 := h11_0.len
            refine xO1 (lds := [1, 7]) 4 ?_
            refine xIe (lds := [1, 7]) e219.r (eBs (T := tyU8) (p := g218.b) (et := 5) (xs := ([(u8 ((t7 : Nat) : Int))] : List UInt8)) (reps_cons (c := [vy ((t7 : Nat) : Int)]) (u8_rep (by omega)) reps_nil) (by simp)) ?_
            rintro _ _ _ - ⟨A220, c220, k220, rfl, rfl, rfl, h220⟩
            refine kk [some 2] ?_
            refine xSub [(29, vs A11_0 y11 c11_0), (31, vs A220 ([(u8 ((t7 : Nat) : Int))] : List UInt8) c220), (34, vs Ax_in_ x.in_ cx_in_)] ?_
            exact hD10 _ _ _ e219 ⟨A11_0, c11_0, k11_0, A220, c220, k220, by kernel_rfl, by kernel_rfl, h11_0, h220⟩
          · refine xIe (lds := [1, 7]) (Psi.le.refl _) (eBs (T := tyU8) (p := g8.b) (et := 5) (xs := ([(u8 ((t7 : Nat) : Int))] : List UInt8)) (reps_cons (c := [vy ((t7 : Nat) : Int)]) (u8_rep (by omega)) reps_nil) (by simp)) ?_
            rintro _ _ _ - ⟨A221, c221, k221, rfl, rfl, rfl, h221⟩
            refine kk [some 1] ?_
            refine xSel [none, some 0, some 1] ?_
            refine xO1 (lds := [1, 7]) 2 ?_
            refine xIe (lds := [1, 7]) (Psi.le.refl _) (eC 1 (fun g' lr eb ln => c53 g' ([] : List UInt8) none 0 none (x.steps : Int) (8 : Int) Buf.nil hy11)) ?_
            rintro _ g223 _ e224 ⟨_, rfl, A11_0, c11_0, k11_0, rfl, rfl, h11_0⟩
            refine kk [some 2] ?_
            have nh11_0 := h11_0.len
            refine xSel [some 1, some 0, some 2] ?_
            refine xSub [(29, vs A11_0 y11 c11_0), (31, vs A221 ([(u8 ((t7 : Nat) : Int))] : List UInt8) c221), (34, vs Ax_in_ x.in_ cx_in_)] ?_
            have h221 := h221.mono e224.b
            exact hD10 _ _ _ e224 ⟨A11_0, c11_0, k11_0, A221, c221, k221, by kernel_rfl, by kernel_rfl, h11_0, h221⟩
      · intro u7 hS hN7
        refine xCd (x.fresh) (fun h225 => ?_) (fun h225 => ?_)
        · have hS := cond_T h225 hS
          refine xRg ?_
          refine xB 1 [] [(1, vp b1 0), (9, vy 1)] ?_
          refine xRe ?_
          refine xSel [some 2] ?_
          refine xSub [(1, vp b1 0), (9, vy 1)] ?_
          have eS := hS.symm
          exact hN7 _ eS _ _ _ (Gh.le.refl _) ⟨by kernel_rfl, by kernel_rfl, ⟨by omega, by omega⟩⟩
        · have hS := cond_F h225 hS
          refine xSk ?_
          refine xSel [some 2] ?_
          refine xSub [(1, vp b1 0), (9, vy 0)] ?_
          have eS := hS.symm
          exact hN7 _ eS _ _ _ (Gh.le.refl _) ⟨by kernel_rfl, by kernel_rfl, ⟨by omega, by omega⟩⟩

end Go.Proofs.Ytgnajpoebooafaa
