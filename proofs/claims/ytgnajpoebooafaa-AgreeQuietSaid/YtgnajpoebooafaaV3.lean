/-
Walks, printed by wip/gen. Conditions: each theorem's own.
-/
import Derived.Test.YtgnajpoebooafaaV2
namespace Go.Proofs.Ytgnajpoebooafaa
set_option linter.unusedVariables false
set_option linter.unusedSimpArgs false
open Go.RowKit
def o10_L0 (l : List Round) (steps : Int) (s27 : Nat × Node × Node) : Option (Ctl (Nat × Node × Node) (Ctl (Unit) (Bool))) :=
  (cond ((decide (((s27.1 : Nat) : Int) < (((l).length : Nat) : Int)) && decide (((s27.1 : Nat) : Int) < 12))) (bindO (τ := Node × Node × TwoS × TwoB × TwoT × TwoU × Bool) (o39 s27.2.2 s27.2.1 (((s27.1 : Nat) : Int) : Int) ({ (List.getD l s27.1 default) with lost := (⟨0, 0⟩ : TwoU), wrong := (⟨0, 0⟩ : TwoI) })) fun y37 => (letJ (τ := Bool) (cond ((!y37.2.2.2.2.2.2)) (true) (y37.2.2.2.2.2.1.a0 != 4)) fun t44 => (letJ (τ := Bool) (cond (t44) (true) (y37.2.2.2.2.2.1.a1 != 4)) fun t47 => (letJ (τ := Bool) (cond (t47) (true) (letJ (τ := Int) (o41 y37.1) fun y97 => (y97 != 2))) fun t50 => (letJ (τ := Bool) (cond (t50) (true) (letJ (τ := Int) (o41 y37.2.1) fun y93 => (y93 != 3))) fun t53 => (bindO (τ := Bool) (cond (t53) (some (true)) (letJ (τ := Int) (o40 y37.1) fun y88 => (grd (decide (-9223372036854775808 ≤ ((landK .i64 steps 1023) + 1) + ((s27.1 : Nat) : Int) ∧ ((landK .i64 steps 1023) + 1) + ((s27.1 : Nat) : Int) ≤ 9223372036854775807)) (some (y88 != ((((landK .i64 steps 1023) + 1) + ((s27.1 : Nat) : Int)) + 1)))))) fun t56 => (cond (t56) (some (Ctl.done (Ctl.done ((false))))) (bindO (τ := (List UInt8) × Bool × (List UInt8) × Bool × Int) (o17 (y37.2.2.1.a1.in_ : List UInt8)) fun y60 => (bindO (τ := Bool) (cond ((((!y60.2.1) || (!y60.2.2.2.1)) || (y60.2.2.2.2 != 0))) (some (true)) (bindO (τ := (List UInt8)) (o14 ((List.getD l s27.1 default).one : List UInt8) (20 : Int)) fun y84 => (some (!(y60.1 == y84))))) fun t71 => (bindO (τ := Bool) (cond (t71) (some (true)) (bindO (τ := (List UInt8)) (o14 ((List.getD l s27.1 default).two : List UInt8) (20 : Int)) fun y80 => (some (!(y60.2.2.1 == y80))))) fun t74 => (cond (t74) (some (Ctl.done (Ctl.done ((false))))) (grd (decide (((s27.1 : Nat) : Int) + 1 ≤ 9223372036854775807)) (some (Ctl.go ((s27.1 + 1), (y37.2.1 : Node), (y37.1 : Node)))))))))))))))) (some (Ctl.done (Ctl.go ()))))
def o10 (l : List Round) (steps : Int) : Option (Bool) :=
  (bindO (τ := Bool) (o13) fun y1 => (cond ((!y1)) (some ((false))) (letJ (τ := (Option Node) × Int) (o37 (1 : Int)) fun y5 => (letJ (τ := (Option Node) × Int) (o37 (2 : Int)) fun y8 => (cond (((Option.isNone (y5.1)) || (Option.isNone (y8.1)))) (some ((false))) (bindO (τ := Node) (y5.1) fun d13 => (letJ (τ := Node × Int) (o38 d13 (((landK .i64 steps 1023) + 1) : Int)) fun y14 => (bindO (τ := Node) (y8.1) fun d17 => (letJ (τ := Bool × Node) (cond ((y14.2 != 0)) (true, (d17 : Node)) (letJ (τ := Node × Int) (o38 d17 (((landK .i64 steps 1023) + 1) : Int)) fun y103 => ((y103.2 != 0), (y103.1 : Node)))) fun t18 => (cond (t18.1) (some ((false))) (joinO (τ := Unit) (ρ := Bool) (loopO (σ := Nat × Node × Node) (ρ := Ctl (Unit) (Bool)) fuelN (o10_L0 l steps) (0, (t18.2 : Node), (y14.1 : Node))) fun t22 => (some ((true))))))))))))))
set_option maxRecDepth 100000 in
theorem c10 (g : Gh) (l : List Round) (Al : Option Addr) (cl : Nat) (steps : Int) (fl : Arr g.b tyRound Al cl l) {r : Bool} (hS : o10 l steps = some r) :
    Ctr Try.prog 10 [vs Al l cl, vi steps] g [] (fun v ψ o => v = vb r ∧ o = []) := by
  unfold o10 at hS
  refine xFn Try.f10 (Try.f10.body.getD .skip) 153 ?_
  have nfl := fl.len
  refine xSq ?_
  refine xRg ?_
  refine xB 1 [] [(0, vs Al l cl), (1, vi steps)] ?_
  refine xRe ?_
  refine wpq_then ?_
  refine xSq ?_
  refine xSq ?_
  refine xRg ?_
  obtain ⟨y1, hy1, hS⟩ := bindO_T hS
  refine xE (eC 0 (fun g' lr eb ln => c13 g'  hy1)) ?_
  rintro _ g2 _ e3 ⟨_, rfl, rfl, rfl⟩
  refine xB 1 [] [(0, vs Al l cl), (1, vi steps), (23, vb (!y1))] ?_
  refine xRe ?_
  refine wpq_then ?_
  refine xCd ((!y1)) (fun h4 => ?_) (fun h4 => ?_)
  · have hS := cond_T h4 hS
    have h4n := not_eq_true_ h4
    refine xSq ?_
    refine xRg ?_
    refine xB 1 [] [(4, vb false)] ?_
    refine xRe ?_
    refine wpq_then ?_
    have eS := (Option.some.inj hS).symm
    subst eS
    exact xRet [] [4] e3 ⟨by kernel_rfl, by kernel_rfl⟩ (fun _ _ h => h)
  · have hS := cond_F h4 hS
    have h4n := not_eq_false_ h4
    refine xSk ?_
    refine wpq_then ?_
    refine xSub [(0, vs Al l cl), (1, vi steps)] ?_
    refine xSq ?_
    refine xRg ?_
    obtain ⟨y5, hy5, hS⟩ := letJ_T hS
    refine xE (eC 0 (fun g' lr eb ln => c37 g' (1 : Int) hy5)) ?_
    rintro _ g6 _ e7 ⟨_, rfl, v5_0, k5_0, rfl, rfl, hn5_0, hs5_0⟩
    refine xB 5 [] [(0, vs Al l cl), (1, vi steps), (5, v5_0)] ?_
    refine xRe ?_
    refine wpq_then ?_
    refine xSq ?_
    refine xRg ?_
    obtain ⟨y8, hy8, hS⟩ := letJ_T hS
    refine xE (eC 0 (fun g' lr eb ln => c37 g' (2 : Int) hy8)) ?_
    rintro _ g9 _ e10 ⟨_, rfl, v8_0, k8_0, rfl, rfl, hn8_0, hs8_0⟩
    refine xB 5 [] [(0, vs Al l cl), (1, vi steps), (5, v5_0), (7, v8_0)] ?_
    refine xRe ?_
    refine wpq_then ?_
    refine xSq ?_
    refine xSq ?_
    refine xRg ?_
    refine xB 1 [] [(0, vs Al l cl), (1, vi steps), (5, v5_0), (7, v8_0), (32, v5_0)] ?_
    refine xV (qPn hn5_0 (fun d h => by obtain ⟨_, _, _, _, _, _, _, h1, _⟩ := hs5_0 d h; exact ⟨_, h1⟩)) ?_
    refine xB 1 [] [(0, vs Al l cl), (1, vi steps), (5, v5_0), (7, v8_0), (34, vb (Option.isNone (y5.1)))] ?_
    refine wpr_grp 6 [(0, vs Al l cl), (1, vi steps), (5, v5_0), (7, v8_0), (37, vb ((Option.isNone (y5.1)) || (Option.isNone (y8.1))))] (fun hk2 => ?_) ?_
    · refine wpq_split 34 (b := (Option.isNone (y5.1))) (by kernel_rfl) (fun q11 => ?_) (fun q11 => ?_)
      · refine xB 3 [] [(0, vs Al l cl), (1, vi steps), (5, v5_0), (7, v8_0), (37, vb true)] ?_
        refine wpq_re 37 (v := vb true) (Value.bool (((Option.isNone (y5.1)) || (Option.isNone (y8.1))))) (by kernel_rfl) (re_or1 q11) ?_
        exact wpq_sub _ (by kernel_rfl) hk2
      · refine xB 1 [] [(0, vs Al l cl), (1, vi steps), (5, v5_0), (7, v8_0), (34, vb false), (35, v8_0)] ?_
        refine xV (qPn hn8_0 (fun d h => by obtain ⟨_, _, _, _, _, _, _, h1, _⟩ := hs8_0 d h; exact ⟨_, h1⟩)) ?_
        refine xB 1 [] [(0, vs Al l cl), (1, vi steps), (5, v5_0), (7, v8_0), (37, vb (Option.isNone (y8.1)))] ?_
        refine wpq_re 37 (v := vb (Option.isNone (y8.1))) (Value.bool (((Option.isNone (y5.1)) || (Option.isNone (y8.1))))) (by kernel_rfl) (re_or0 q11) ?_
        exact wpq_sub _ (by kernel_rfl) hk2
    · refine xRe ?_
      refine wpq_then ?_
      refine xCd (((Option.isNone (y5.1)) || (Option.isNone (y8.1)))) (fun h12 => ?_) (fun h12 => ?_)
      · have hS := cond_T h12 hS
        refine xSq ?_
        refine xRg ?_
        refine xB 1 [] [(4, vb false)] ?_
        refine xRe ?_
        refine wpq_then ?_
        have eS := (Option.some.inj hS).symm
        subst eS
        exact xRet [] [4] (e3.trans (e7.trans e10)) ⟨by kernel_rfl, by kernel_rfl⟩ (fun _ _ h => h)
      · have hS := cond_F h12 hS
        have h12l := (or_false_ h12).1
        have h12r := (or_false_ h12).2
        refine xSk ?_
        refine wpq_then ?_
        refine xSub [(0, vs Al l cl), (1, vi steps), (5, v5_0), (7, v8_0)] ?_
        refine xSq ?_
        refine xRg ?_
        have z1 := land64 steps 1023 (by omega)
        refine xB 2 [] [(0, vs Al l cl), (5, v5_0), (7, v8_0), (39, vi (landK .i64 steps 1023))] ?_
        refine xV (qAdd .i64 ((landK .i64 steps 1023)) (1) (wr64 (by omega))) ?_
        refine xB 1 [] [(0, vs Al l cl), (5, v5_0), (7, v8_0), (9, vi ((landK .i64 steps 1023) + 1))] ?_
        refine xRe ?_
        refine wpq_then ?_
        refine xSq ?_
        refine xSq ?_
        refine xRg ?_
        refine xB 2 [] [(0, vs Al l cl), (5, v5_0), (7, v8_0), (9, vi ((landK .i64 steps 1023) + 1)), (41, v5_0), (42, vi ((landK .i64 steps 1023) + 1))] ?_
        obtain ⟨d13, ed13, hS⟩ := bindO_T hS
        obtain ⟨bd13, Ad13_input, cd13_input, Ad13_heard_input, cd13_heard_input, Ad13_set__in_, cd13_set__in_, rfl, rfl, fd13_input, fd13_heard_input, fd13_set__in_⟩ := hs5_0 d13 ed13
        have nfd13_input := fd13_input.len
        have nfd13_heard_input := fd13_heard_input.len
        have nfd13_set__in_ := fd13_set__in_.len
        refine xSel [some 1, some 0] ?_
        have fd13_input := fd13_input.mono e10.b
        have fd13_heard_input := fd13_heard_input.mono e10.b
        have fd13_set__in_ := fd13_set__in_.mono e10.b
        obtain ⟨y14, hy14, hS⟩ := letJ_T hS
        refine xE (eC 1 (fun g' lr eb ln => c38 g' bd13 d13 Ad13_input cd13_input Ad13_heard_input cd13_heard_input Ad13_set__in_ cd13_set__in_ (((landK .i64 steps 1023) + 1) : Int) (by rw [eb]; exact fd13_input) (by rw [eb]; exact fd13_heard_input) (by rw [eb]; exact fd13_set__in_) hy14)) ?_
        rintro _ g15 _ e16 ⟨_, rfl, A14_n_input, c14_n_input, A14_n_heard_input, c14_n_heard_input, A14_n_set__in_, c14_n_set__in_, rfl, rfl, f14_n_input, f14_n_heard_input, f14_n_set__in_⟩
        have nf14_n_input := f14_n_input.len
        have nf14_n_heard_input := f14_n_heard_input.len
        have nf14_n_set__in_ := f14_n_set__in_.len
        refine xB 2 [] [(0, vs Al l cl), (5, vp bd13 0), (7, v8_0), (9, vi ((landK .i64 steps 1023) + 1)), (45, vb (y14.2 != 0))] ?_
        obtain ⟨d17, ed17, hS⟩ := bindO_T hS
        obtain ⟨bd17, Ad17_input, cd17_input, Ad17_heard_input, cd17_heard_input, Ad17_set__in_, cd17_set__in_, rfl, rfl, fd17_input, fd17_heard_input, fd17_set__in_⟩ := hs8_0 d17 ed17
        have nfd17_input := fd17_input.len
        have nfd17_heard_input := fd17_heard_input.len
        have nfd17_set__in_ := fd17_set__in_.len
        refine xGJl hS 10 (fun g own sl t18 => ∃ (A18_1_input : Option Addr) (c18_1_input : Nat) (A18_1_heard_input : Option Addr) (c18_1_heard_input : Nat) (A18_1_set__in_ : Option Addr) (c18_1_set__in_ : Nat), own = [some ⟨bd17, 131, (cNode t18.2 A18_1_input c18_1_input A18_1_heard_input c18_1_heard_input A18_1_set__in_ c18_1_set__in_)⟩, some ⟨bd13, 131, (cNode y14.1 A14_n_input c14_n_input A14_n_heard_input c14_n_heard_input A14_n_set__in_ c14_n_set__in_)⟩] ∧ sl = [(0, vs Al l cl), (5, vp bd13 0), (7, vp bd17 0), (9, vi ((landK .i64 steps 1023) + 1)), (50, vb t18.1)] ∧ Arr g.b tyU8 A18_1_input c18_1_input t18.2.input ∧ Arr g.b tyU8 A18_1_heard_input c18_1_heard_input t18.2.heard.input ∧ Arr g.b tyU8 A18_1_set__in_ c18_1_set__in_ t18.2.set_.in_) ?_ ?_
        · rintro g19 _ _ t18 e20 ⟨A18_1_input, c18_1_input, A18_1_heard_input, c18_1_heard_input, A18_1_set__in_, c18_1_set__in_, rfl, rfl, f18_1_input, f18_1_heard_input, f18_1_set__in_⟩ hS
          have nf18_1_input := f18_1_input.len
          have nf18_1_heard_input := f18_1_heard_input.len
          have nf18_1_set__in_ := f18_1_set__in_.len
          refine xRe ?_
          refine wpq_then ?_
          refine xCd (t18.1) (fun h21 => ?_) (fun h21 => ?_)
          · have hS := cond_T h21 hS
            refine xSq ?_
            refine xRg ?_
            refine xB 1 [] [(4, vb false)] ?_
            refine xRe ?_
            refine wpq_then ?_
            have eS := (Option.some.inj hS).symm
            subst eS
            exact xRet [] [4] (e3.trans (e7.trans (e10.trans (e16.trans e20)))) ⟨by kernel_rfl, by kernel_rfl⟩ (fun _ _ h => h)
          · have hS := cond_F h21 hS
            refine xSk ?_
            refine wpq_then ?_
            refine xSub [(0, vs Al l cl), (5, vp bd13 0), (7, vp bd17 0), (9, vi ((landK .i64 steps 1023) + 1))] ?_
            refine xSq ?_
            refine xSq ?_
            refine xRg ?_
            refine xB 1 [] [(0, vs Al l cl), (5, vp bd13 0), (7, vp bd17 0), (9, vi ((landK .i64 steps 1023) + 1)), (10, vi 0)] ?_
            refine xRe ?_
            refine wpq_then ?_
            refine xJoinO hS (fun g own sl t22 => own = [] ∧ sl = []) ?_ ?_
            · rintro g23 _ _ t22 e24 ⟨rfl, rfl⟩ hS
              refine wpq_then ?_
              refine xSq ?_
              refine xRg ?_
              refine xB 1 [] [(4, vb true)] ?_
              refine xRe ?_
              refine wpq_then ?_
              have eS := (Option.some.inj hS).symm
              subst eS
              exact xRet [] [4] (e3.trans (e7.trans (e10.trans (e16.trans (e20.trans e24))))) ⟨by kernel_rfl, by kernel_rfl⟩ (fun _ _ h => h)
            · intro u22 hS hN22 hD22
              refine xBl 0 ?_
              have f14_n_input := f14_n_input.mono e20.b
              have f14_n_heard_input := f14_n_heard_input.mono e20.b
              have f14_n_set__in_ := f14_n_set__in_.mono e20.b
              refine xSub [(0, vs Al l cl), (5, vp bd13 0), (7, vp bd17 0), (9, vi ((landK .i64 steps 1023) + 1)), (10, vi 0)] ?_
              refine xLo hS (fun g own sl s27 => ∃ (A27_1_input : Option Addr) (c27_1_input : Nat) (A27_1_heard_input : Option Addr) (c27_1_heard_input : Nat) (A27_1_set__in_ : Option Addr) (c27_1_set__in_ : Nat) (A27_2_input : Option Addr) (c27_2_input : Nat) (A27_2_heard_input : Option Addr) (c27_2_heard_input : Nat) (A27_2_set__in_ : Option Addr) (c27_2_set__in_ : Nat), own = [some ⟨bd17, 131, (cNode s27.2.1 A27_1_input c27_1_input A27_1_heard_input c27_1_heard_input A27_1_set__in_ c27_1_set__in_)⟩, some ⟨bd13, 131, (cNode s27.2.2 A27_2_input c27_2_input A27_2_heard_input c27_2_heard_input A27_2_set__in_ c27_2_set__in_)⟩] ∧ sl = [(0, vs Al l cl), (5, vp bd13 0), (7, vp bd17 0), (9, vi ((landK .i64 steps 1023) + 1)), (10, vi ((s27.1 : Nat) : Int))] ∧ Arr g.b tyU8 A27_1_input c27_1_input s27.2.1.input ∧ Arr g.b tyU8 A27_1_heard_input c27_1_heard_input s27.2.1.heard.input ∧ Arr g.b tyU8 A27_1_set__in_ c27_1_set__in_ s27.2.1.set_.in_ ∧ Arr g.b tyU8 A27_2_input c27_2_input s27.2.2.input ∧ Arr g.b tyU8 A27_2_heard_input c27_2_heard_input s27.2.2.heard.input ∧ Arr g.b tyU8 A27_2_set__in_ c27_2_set__in_ s27.2.2.set_.in_) ⟨A18_1_input, c18_1_input, A18_1_heard_input, c18_1_heard_input, A18_1_set__in_, c18_1_set__in_, A14_n_input, c14_n_input, A14_n_heard_input, c14_n_heard_input, A14_n_set__in_, c14_n_set__in_, by kernel_rfl, by kernel_rfl, f18_1_input, f18_1_heard_input, f18_1_set__in_, f14_n_input, f14_n_heard_input, f14_n_set__in_⟩ ?_
              rintro g28 _ _ s27 u27 e29 ⟨A27_1_input, c27_1_input, A27_1_heard_input, c27_1_heard_input, A27_1_set__in_, c27_1_set__in_, A27_2_input, c27_2_input, A27_2_heard_input, c27_2_heard_input, A27_2_set__in_, c27_2_set__in_, rfl, rfl, f27_1_input, f27_1_heard_input, f27_1_set__in_, f27_2_input, f27_2_heard_input, f27_2_set__in_⟩ hS Qr27 hN27 hD27
              have nf27_1_input := f27_1_input.len
              have nf27_1_heard_input := f27_1_heard_input.len
              have nf27_1_set__in_ := f27_1_set__in_.len
              have nf27_2_input := f27_2_input.len
              have nf27_2_heard_input := f27_2_heard_input.len
              have nf27_2_set__in_ := f27_2_set__in_.len
              unfold o10_L0 at hS
              refine xSq ?_
              refine xSq ?_
              refine xRg ?_
              refine xB 5 [] [(0, vs Al l cl), (5, vp bd13 0), (7, vp bd17 0), (9, vi ((landK .i64 steps 1023) + 1)), (10, vi ((s27.1 : Nat) : Int)), (55, vb (decide (((s27.1 : Nat) : Int) < (((l).length : Nat) : Int))))] ?_
              refine wpr_grp 8 [(0, vs Al l cl), (5, vp bd13 0), (7, vp bd17 0), (9, vi ((landK .i64 steps 1023) + 1)), (10, vi ((s27.1 : Nat) : Int)), (58, vb (decide (((s27.1 : Nat) : Int) < (((l).length : Nat) : Int)) && decide (((s27.1 : Nat) : Int) < 12)))] (fun hk4 => ?_) ?_
              · refine wpq_split 55 (b := decide (((s27.1 : Nat) : Int) < (((l).length : Nat) : Int))) (by kernel_rfl) (fun q30 => ?_) (fun q30 => ?_)
                · have q30p := of_decide_eq_true q30
                  refine xB 3 [] [(0, vs Al l cl), (5, vp bd13 0), (7, vp bd17 0), (9, vi ((landK .i64 steps 1023) + 1)), (10, vi ((s27.1 : Nat) : Int)), (56, vi ((s27.1 : Nat) : Int)), (57, vb (decide (((s27.1 : Nat) : Int) < 12))), (58, vb (decide (((s27.1 : Nat) : Int) < 12)))] ?_
                  refine wpq_re 58 (v := vb (decide (((s27.1 : Nat) : Int) < 12))) (Value.bool ((decide (((s27.1 : Nat) : Int) < (((l).length : Nat) : Int)) && decide (((s27.1 : Nat) : Int) < 12)))) (by kernel_rfl) (re_and1 q30) ?_
                  exact wpq_sub _ (by kernel_rfl) hk4
                · have q30p := of_decide_eq_false q30
                  refine xB 3 [] [(0, vs Al l cl), (5, vp bd13 0), (7, vp bd17 0), (9, vi ((landK .i64 steps 1023) + 1)), (10, vi ((s27.1 : Nat) : Int)), (56, undef), (57, undef), (58, vb false)] ?_
                  refine wpq_re 58 (v := vb false) (Value.bool ((decide (((s27.1 : Nat) : Int) < (((l).length : Nat) : Int)) && decide (((s27.1 : Nat) : Int) < 12)))) (by kernel_rfl) (re_and0 q30) ?_
                  exact wpq_sub _ (by kernel_rfl) hk4
              · refine xRe ?_
                refine wpq_then ?_
                refine xCd ((decide (((s27.1 : Nat) : Int) < (((l).length : Nat) : Int)) && decide (((s27.1 : Nat) : Int) < 12))) (fun h31 => ?_) (fun h31 => ?_)
                · have hS := cond_T h31 hS
                  have h31l := (and_true_ h31).1
                  have h31r := (and_true_ h31).2
                  have h31lp := of_decide_eq_true h31l
                  have h31rp := of_decide_eq_true h31r
                  refine xSk ?_
                  refine wpq_then ?_
                  refine xSub [(0, vs Al l cl), (5, vp bd13 0), (7, vp bd17 0), (9, vi ((landK .i64 steps 1023) + 1)), (10, vi ((s27.1 : Nat) : Int))] ?_
                  refine xSq ?_
                  refine xBl 1 ?_
                  refine xSq ?_
                  refine xDr 0 [4, 9] [12, 10] [some ⟨bd17, 131, (cNode s27.2.1 A27_1_input c27_1_input A27_1_heard_input c27_1_heard_input A27_1_set__in_ c27_1_set__in_)⟩, some ⟨bd13, 131, (cNode s27.2.2 A27_2_input c27_2_input A27_2_heard_input c27_2_heard_input A27_2_set__in_ c27_2_set__in_)⟩] 13 (fun RG => ?_) (fun _ _ _ _ _ h => h)
                  have fl := fl.mono (e3.trans (e7.trans (e10.trans (e16.trans (e20.trans e29))))).b
                  have i33 : s27.1 < (l).length := by omega
                  obtain ⟨ad32, cs32, hA32, hr32, hc32⟩ := fl.at_ (get_getD (d := default) i33)
                  obtain ⟨A32_one, c32_one, A32_two, c32_two, rfl, f32_one, f32_two⟩ := hr32
                  have nf32_one := f32_one.len
                  have nf32_two := f32_two.len
                  refine xT 11 [0, 1] [] [some 0, some 1] [(0, vs Al l cl), (5, vp bd13 0), (7, vp bd17 0), (9, vi ((landK .i64 steps 1023) + 1)), (10, vi ((s27.1 : Nat) : Int)), (61, vs Al l cl), (62, vi ((s27.1 : Nat) : Int))] RG (Psi.le.refl _) ?_
                  refine xTp 2 RG (fun _ => (qIx s27.1 6 hA32 rfl i33)) ?_
                  refine xT 9 [3] [] [some 0, some 1] [(0, vs Al l cl), (5, vp bd13 0), (7, vp bd17 0), (9, vi ((landK .i64 steps 1023) + 1)), (10, vi ((s27.1 : Nat) : Int)), (64, Value.pointer (some (Addr.add ad32 (s27.1 * 6))))] RG (Psi.le.refl _) ?_
                  refine xTv 4 [some 0, some 1] RG (Psi.le.refl _) (qLdP (Addr.add ad32 (s27.1 * 6)) 0 (hc32.mono g28.br)) ?_
                  have i35 : s27.1 < (l).length := by omega
                  obtain ⟨ad34, cs34, hA34, hr34, hc34⟩ := fl.at_ (get_getD (d := default) i35)
                  obtain ⟨A34_one, c34_one, A34_two, c34_two, rfl, f34_one, f34_two⟩ := hr34
                  have nf34_one := f34_one.len
                  have nf34_two := f34_two.len
                  refine xT 6 [5, 6] [] [some 0, some 1] [(0, vs Al l cl), (5, vp bd13 0), (7, vp bd17 0), (9, vi ((landK .i64 steps 1023) + 1)), (10, vi ((s27.1 : Nat) : Int)), (65, vs A32_one ((List.getD l s27.1 default).one) c32_one), (66, vs Al l cl), (67, vi ((s27.1 : Nat) : Int))] RG (Psi.le.refl _) ?_
                  refine xTp 7 RG (fun _ => (qIx s27.1 6 hA34 rfl i35)) ?_
                  refine xT 4 [8] [] [some 0, some 1] [(0, vs Al l cl), (5, vp bd13 0), (7, vp bd17 0), (9, vi ((landK .i64 steps 1023) + 1)), (10, vi ((s27.1 : Nat) : Int)), (65, vs A32_one ((List.getD l s27.1 default).one) c32_one), (69, Value.pointer (some (Addr.add (Addr.add ad34 (s27.1 * 6)) 1)))] RG (Psi.le.refl _) ?_
                  refine xTv 9 [some 0, some 1] RG (Psi.le.refl _) (qLdP (Addr.add ad34 (s27.1 * 6)) 1 (hc34.mono g28.br)) ?_
                  refine xT 2 [10] [] [some 0, some 1] [(0, vs Al l cl), (5, vp bd13 0), (7, vp bd17 0), (9, vi ((landK .i64 steps 1023) + 1)), (10, vi ((s27.1 : Nat) : Int)), (71, Value.agg #[vs A32_one ((List.getD l s27.1 default).one) c32_one, vs A34_two ((List.getD l s27.1 default).two) c34_two, vy 0, vy 0, vi 0, vi 0])] RG (Psi.le.refl _) ?_
                  refine xO1 (lds := [4, 9]) 11 ?_
                  refine xIe (lds := [4, 9]) (Psi.le.refl _) eB ?_
                  rintro _ _ _ - ⟨b36, rfl, rfl, rfl⟩
                  refine kk [some 1, some 2] ?_
                  refine xO1 (lds := [4, 9]) 12 ?_
                  refine xId (lds := [4, 9]) (Psi.le.refl _) (eStL b36 0 0) ?_
                  rintro _ _ _ - ⟨rfl, rfl⟩
                  refine kf ?_
                  refine xAe (lds := [4, 9]) ?_
                  refine wpq_then ?_
                  refine xSub [(0, vs Al l cl), (5, vp bd13 0), (7, vp bd17 0), (9, vi ((landK .i64 steps 1023) + 1)), (10, vi ((s27.1 : Nat) : Int)), (11, vp b36 0)] ?_
                  refine xSq ?_
                  refine xRg ?_
                  refine xB 5 [(4, 0)] [(0, vs Al l cl), (5, vp bd13 0), (7, vp bd17 0), (9, vi ((landK .i64 steps 1023) + 1)), (10, vi ((s27.1 : Nat) : Int)), (11, vp b36 0), (75, Value.agg #[vp bd13 0, vp bd17 0]), (76, vi ((s27.1 : Nat) : Int)), (77, Value.agg #[vs A32_one ((List.getD l s27.1 default).one) c32_one, vs A34_two ((List.getD l s27.1 default).two) c34_two, vy 0, vy 0, vi 0, vi 0])] ?_
                  refine xSel [some 2, some 1, some 0] ?_
                  obtain ⟨y37, hy37, hS⟩ := bindO_T hS
                  refine xE (eC 2 (fun g' lr eb ln => c39 g' bd13 s27.2.2 A27_2_input c27_2_input A27_2_heard_input c27_2_heard_input A27_2_set__in_ c27_2_set__in_ bd17 s27.2.1 A27_1_input c27_1_input A27_1_heard_input c27_1_heard_input A27_1_set__in_ c27_1_set__in_ (((s27.1 : Nat) : Int) : Int) ({ (List.getD l s27.1 default) with lost := (⟨0, 0⟩ : TwoU), wrong := (⟨0, 0⟩ : TwoI) }) A32_one c32_one A34_two c34_two (by rw [eb]; exact f27_2_input) (by rw [eb]; exact f27_2_heard_input) (by rw [eb]; exact f27_2_set__in_) (by rw [eb]; exact f27_1_input) (by rw [eb]; exact f27_1_heard_input) (by rw [eb]; exact f27_1_set__in_) (by rw [eb]; exact f32_one) (by rw [eb]; exact f34_two) hy37)) ?_
                  rintro _ g38 _ e39 ⟨_, rfl, A37_la_input, c37_la_input, A37_la_heard_input, c37_la_heard_input, A37_la_set__in_, c37_la_set__in_, A37_lb_input, c37_lb_input, A37_lb_heard_input, c37_lb_heard_input, A37_lb_set__in_, c37_lb_set__in_, A37_0_a0_in_, c37_0_a0_in_, A37_0_a1_in_, c37_0_a1_in_, rfl, rfl, f37_la_input, f37_la_heard_input, f37_la_set__in_, f37_lb_input, f37_lb_heard_input, f37_lb_set__in_, f37_0_a0_in_, f37_0_a1_in_⟩
                  have nf37_la_input := f37_la_input.len
                  have nf37_la_heard_input := f37_la_heard_input.len
                  have nf37_la_set__in_ := f37_la_set__in_.len
                  have nf37_lb_input := f37_lb_input.len
                  have nf37_lb_heard_input := f37_lb_heard_input.len
                  have nf37_lb_set__in_ := f37_lb_set__in_.len
                  have nf37_0_a0_in_ := f37_0_a0_in_.len
                  have nf37_0_a1_in_ := f37_0_a1_in_.len
                  refine xB 6 [] [(0, vs Al l cl), (5, vp bd13 0), (7, vp bd17 0), (9, vi ((landK .i64 steps 1023) + 1)), (10, vi ((s27.1 : Nat) : Int)), (11, vp b36 0), (79, Value.agg #[vi y37.2.2.1.a0.steps, vi y37.2.2.1.a0.cycle, vb y37.2.2.1.a0.fresh, vs A37_0_a0_in_ y37.2.2.1.a0.in_ c37_0_a0_in_, vi y37.2.2.1.a1.steps, vi y37.2.2.1.a1.cycle, vb y37.2.2.1.a1.fresh, vs A37_0_a1_in_ y37.2.2.1.a1.in_ c37_0_a1_in_]), (80, Value.agg #[vb y37.2.2.2.1.a0, vb y37.2.2.2.1.a1]), (81, Value.agg #[vy y37.2.2.2.2.1.a0.lateral, vy y37.2.2.2.2.1.a0.vertical, vy y37.2.2.2.2.1.a0.phase, vi y37.2.2.2.2.1.a0.bank, vi y37.2.2.2.2.1.a0.speed, vi y37.2.2.2.2.1.a0.alt, vi y37.2.2.2.2.1.a0.vs, vy y37.2.2.2.2.1.a1.lateral, vy y37.2.2.2.2.1.a1.vertical, vy y37.2.2.2.2.1.a1.phase, vi y37.2.2.2.2.1.a1.bank, vi y37.2.2.2.2.1.a1.speed, vi y37.2.2.2.2.1.a1.alt, vi y37.2.2.2.2.1.a1.vs]), (82, Value.agg #[vy y37.2.2.2.2.2.1.a0, vy y37.2.2.2.2.2.1.a1]), (83, vb y37.2.2.2.2.2.2)] ?_
                  refine xE eB ?_
                  rintro _ _ _ - ⟨b40, rfl, rfl, rfl⟩
                  refine xE eB ?_
                  rintro _ _ _ - ⟨b41, rfl, rfl, rfl⟩
                  refine xE eB ?_
                  rintro _ _ _ - ⟨b42, rfl, rfl, rfl⟩
                  refine xE eB ?_
                  rintro _ _ _ - ⟨b43, rfl, rfl, rfl⟩
                  refine xBo 5 [(16, 3), (17, 2), (18, 1), (19, 0)] [some ⟨b43, 84, [vy y37.2.2.2.2.2.1.a0, vy y37.2.2.2.2.2.1.a1]⟩, some ⟨b42, 83, [vy y37.2.2.2.2.1.a0.lateral, vy y37.2.2.2.2.1.a0.vertical, vy y37.2.2.2.2.1.a0.phase, vi y37.2.2.2.2.1.a0.bank, vi y37.2.2.2.2.1.a0.speed, vi y37.2.2.2.2.1.a0.alt, vi y37.2.2.2.2.1.a0.vs, vy y37.2.2.2.2.1.a1.lateral, vy y37.2.2.2.2.1.a1.vertical, vy y37.2.2.2.2.1.a1.phase, vi y37.2.2.2.2.1.a1.bank, vi y37.2.2.2.2.1.a1.speed, vi y37.2.2.2.2.1.a1.alt, vi y37.2.2.2.2.1.a1.vs]⟩, some ⟨b41, 82, [vb y37.2.2.2.1.a0, vb y37.2.2.2.1.a1]⟩, some ⟨b40, 81, [vi y37.2.2.1.a0.steps, vi y37.2.2.1.a0.cycle, vb y37.2.2.1.a0.fresh, vs A37_0_a0_in_ y37.2.2.1.a0.in_ c37_0_a0_in_, vi y37.2.2.1.a1.steps, vi y37.2.2.1.a1.cycle, vb y37.2.2.1.a1.fresh, vs A37_0_a1_in_ y37.2.2.1.a1.in_ c37_0_a1_in_]⟩, some ⟨bd13, 131, (cNode y37.1 A37_la_input c37_la_input A37_la_heard_input c37_la_heard_input A37_la_set__in_ c37_la_set__in_)⟩, some ⟨bd17, 131, (cNode y37.2.1 A37_lb_input c37_lb_input A37_lb_heard_input c37_lb_heard_input A37_lb_set__in_ c37_lb_set__in_)⟩, some ⟨b36, 89, (cRound ({ (List.getD l s27.1 default) with lost := (⟨0, 0⟩ : TwoU), wrong := (⟨0, 0⟩ : TwoI) }) A32_one c32_one A34_two c34_two)⟩] [(0, vs Al l cl), (5, vp bd13 0), (7, vp bd17 0), (9, vi ((landK .i64 steps 1023) + 1)), (10, vi ((s27.1 : Nat) : Int)), (11, vp b36 0), (12, vp b40 0), (15, vp b43 0), (16, vb y37.2.2.2.2.2.2)] ?_
                  refine xRe ?_
                  refine wpq_then ?_
                  refine xSq ?_
                  refine xSq ?_
                  refine xRg ?_
                  refine xB 3 [] [(0, vs Al l cl), (5, vp bd13 0), (7, vp bd17 0), (9, vi ((landK .i64 steps 1023) + 1)), (10, vi ((s27.1 : Nat) : Int)), (11, vp b36 0), (12, vp b40 0), (15, vp b43 0), (86, vb (!y37.2.2.2.2.2.2))] ?_
                  refine xGJl hS 7 (fun g own sl t44 => own = [some ⟨b43, 84, [vy y37.2.2.2.2.2.1.a0, vy y37.2.2.2.2.2.1.a1]⟩, some ⟨b40, 81, [vi y37.2.2.1.a0.steps, vi y37.2.2.1.a0.cycle, vb y37.2.2.1.a0.fresh, vs A37_0_a0_in_ y37.2.2.1.a0.in_ c37_0_a0_in_, vi y37.2.2.1.a1.steps, vi y37.2.2.1.a1.cycle, vb y37.2.2.1.a1.fresh, vs A37_0_a1_in_ y37.2.2.1.a1.in_ c37_0_a1_in_]⟩, some ⟨bd13, 131, (cNode y37.1 A37_la_input c37_la_input A37_la_heard_input c37_la_heard_input A37_la_set__in_ c37_la_set__in_)⟩, some ⟨bd17, 131, (cNode y37.2.1 A37_lb_input c37_lb_input A37_lb_heard_input c37_lb_heard_input A37_lb_set__in_ c37_lb_set__in_)⟩, some ⟨b36, 89, (cRound ({ (List.getD l s27.1 default) with lost := (⟨0, 0⟩ : TwoU), wrong := (⟨0, 0⟩ : TwoI) }) A32_one c32_one A34_two c34_two)⟩] ∧ sl = [(0, vs Al l cl), (5, vp bd13 0), (7, vp bd17 0), (9, vi ((landK .i64 steps 1023) + 1)), (10, vi ((s27.1 : Nat) : Int)), (11, vp b36 0), (12, vp b40 0), (15, vp b43 0), (90, vb t44)]) ?_ ?_
                  · rintro g45 _ _ t44 e46 ⟨rfl, rfl⟩ hS
                    refine xB 1 [] [(0, vs Al l cl), (5, vp bd13 0), (7, vp bd17 0), (9, vi ((landK .i64 steps 1023) + 1)), (10, vi ((s27.1 : Nat) : Int)), (11, vp b36 0), (12, vp b40 0), (15, vp b43 0), (91, vb t44)] ?_
                    refine xGJl hS 12 (fun g own sl t47 => own = [some ⟨b43, 84, [vy y37.2.2.2.2.2.1.a0, vy y37.2.2.2.2.2.1.a1]⟩, some ⟨b40, 81, [vi y37.2.2.1.a0.steps, vi y37.2.2.1.a0.cycle, vb y37.2.2.1.a0.fresh, vs A37_0_a0_in_ y37.2.2.1.a0.in_ c37_0_a0_in_, vi y37.2.2.1.a1.steps, vi y37.2.2.1.a1.cycle, vb y37.2.2.1.a1.fresh, vs A37_0_a1_in_ y37.2.2.1.a1.in_ c37_0_a1_in_]⟩, some ⟨bd13, 131, (cNode y37.1 A37_la_input c37_la_input A37_la_heard_input c37_la_heard_input A37_la_set__in_ c37_la_set__in_)⟩, some ⟨bd17, 131, (cNode y37.2.1 A37_lb_input c37_lb_input A37_lb_heard_input c37_lb_heard_input A37_lb_set__in_ c37_lb_set__in_)⟩, some ⟨b36, 89, (cRound ({ (List.getD l s27.1 default) with lost := (⟨0, 0⟩ : TwoU), wrong := (⟨0, 0⟩ : TwoI) }) A32_one c32_one A34_two c34_two)⟩] ∧ sl = [(0, vs Al l cl), (5, vp bd13 0), (7, vp bd17 0), (9, vi ((landK .i64 steps 1023) + 1)), (10, vi ((s27.1 : Nat) : Int)), (11, vp b36 0), (12, vp b40 0), (95, vb t47)]) ?_ ?_
                    · rintro g48 _ _ t47 e49 ⟨rfl, rfl⟩ hS
                      refine xB 1 [] [(0, vs Al l cl), (5, vp bd13 0), (7, vp bd17 0), (9, vi ((landK .i64 steps 1023) + 1)), (10, vi ((s27.1 : Nat) : Int)), (11, vp b36 0), (12, vp b40 0), (96, vb t47)] ?_
                      refine xGJl hS 17 (fun g own sl t50 => own = [some ⟨b40, 81, [vi y37.2.2.1.a0.steps, vi y37.2.2.1.a0.cycle, vb y37.2.2.1.a0.fresh, vs A37_0_a0_in_ y37.2.2.1.a0.in_ c37_0_a0_in_, vi y37.2.2.1.a1.steps, vi y37.2.2.1.a1.cycle, vb y37.2.2.1.a1.fresh, vs A37_0_a1_in_ y37.2.2.1.a1.in_ c37_0_a1_in_]⟩, some ⟨bd13, 131, (cNode y37.1 A37_la_input c37_la_input A37_la_heard_input c37_la_heard_input A37_la_set__in_ c37_la_set__in_)⟩, some ⟨bd17, 131, (cNode y37.2.1 A37_lb_input c37_lb_input A37_lb_heard_input c37_lb_heard_input A37_lb_set__in_ c37_lb_set__in_)⟩, some ⟨b36, 89, (cRound ({ (List.getD l s27.1 default) with lost := (⟨0, 0⟩ : TwoU), wrong := (⟨0, 0⟩ : TwoI) }) A32_one c32_one A34_two c34_two)⟩] ∧ sl = [(0, vs Al l cl), (5, vp bd13 0), (7, vp bd17 0), (9, vi ((landK .i64 steps 1023) + 1)), (10, vi ((s27.1 : Nat) : Int)), (11, vp b36 0), (12, vp b40 0), (100, vb t50)]) ?_ ?_
                      · rintro g51 _ _ t50 e52 ⟨rfl, rfl⟩ hS
                        refine xB 1 [] [(0, vs Al l cl), (5, vp bd13 0), (7, vp bd17 0), (9, vi ((landK .i64 steps 1023) + 1)), (10, vi ((s27.1 : Nat) : Int)), (11, vp b36 0), (12, vp b40 0), (101, vb t50)] ?_
                        refine xGJl hS 22 (fun g own sl t53 => own = [some ⟨b40, 81, [vi y37.2.2.1.a0.steps, vi y37.2.2.1.a0.cycle, vb y37.2.2.1.a0.fresh, vs A37_0_a0_in_ y37.2.2.1.a0.in_ c37_0_a0_in_, vi y37.2.2.1.a1.steps, vi y37.2.2.1.a1.cycle, vb y37.2.2.1.a1.fresh, vs A37_0_a1_in_ y37.2.2.1.a1.in_ c37_0_a1_in_]⟩, some ⟨bd13, 131, (cNode y37.1 A37_la_input c37_la_input A37_la_heard_input c37_la_heard_input A37_la_set__in_ c37_la_set__in_)⟩, some ⟨bd17, 131, (cNode y37.2.1 A37_lb_input c37_lb_input A37_lb_heard_input c37_lb_heard_input A37_lb_set__in_ c37_lb_set__in_)⟩, some ⟨b36, 89, (cRound ({ (List.getD l s27.1 default) with lost := (⟨0, 0⟩ : TwoU), wrong := (⟨0, 0⟩ : TwoI) }) A32_one c32_one A34_two c34_two)⟩] ∧ sl = [(0, vs Al l cl), (5, vp bd13 0), (7, vp bd17 0), (9, vi ((landK .i64 steps 1023) + 1)), (10, vi ((s27.1 : Nat) : Int)), (11, vp b36 0), (12, vp b40 0), (105, vb t53)]) ?_ ?_
                        · rintro g54 _ _ t53 e55 ⟨rfl, rfl⟩ hS
                          refine xB 1 [] [(0, vs Al l cl), (5, vp bd13 0), (7, vp bd17 0), (9, vi ((landK .i64 steps 1023) + 1)), (10, vi ((s27.1 : Nat) : Int)), (11, vp b36 0), (12, vp b40 0), (106, vb t53)] ?_
                          refine xGJo hS 31 (fun g own sl t56 => own = [some ⟨b40, 81, [vi y37.2.2.1.a0.steps, vi y37.2.2.1.a0.cycle, vb y37.2.2.1.a0.fresh, vs A37_0_a0_in_ y37.2.2.1.a0.in_ c37_0_a0_in_, vi y37.2.2.1.a1.steps, vi y37.2.2.1.a1.cycle, vb y37.2.2.1.a1.fresh, vs A37_0_a1_in_ y37.2.2.1.a1.in_ c37_0_a1_in_]⟩, some ⟨bd13, 131, (cNode y37.1 A37_la_input c37_la_input A37_la_heard_input c37_la_heard_input A37_la_set__in_ c37_la_set__in_)⟩, some ⟨bd17, 131, (cNode y37.2.1 A37_lb_input c37_lb_input A37_lb_heard_input c37_lb_heard_input A37_lb_set__in_ c37_lb_set__in_)⟩, some ⟨b36, 89, (cRound ({ (List.getD l s27.1 default) with lost := (⟨0, 0⟩ : TwoU), wrong := (⟨0, 0⟩ : TwoI) }) A32_one c32_one A34_two c34_two)⟩] ∧ sl = [(0, vs Al l cl), (5, vp bd13 0), (7, vp bd17 0), (9, vi ((landK .i64 steps 1023) + 1)), (10, vi ((s27.1 : Nat) : Int)), (11, vp b36 0), (12, vp b40 0), (114, vb t56)]) ?_ ?_
                          · rintro g57 _ _ t56 e58 ⟨rfl, rfl⟩ hS
                            refine xRe ?_
                            refine wpq_then ?_
                            refine xCd (t56) (fun h59 => ?_) (fun h59 => ?_)
                            · have hS := cond_T h59 hS
                              refine xSq ?_
                              refine xRg ?_
                              refine xB 1 [] [(4, vb false)] ?_
                              refine xRe ?_
                              refine wpq_then ?_
                              have eS := (Option.some.inj hS).symm
                              have eS := (hD27 _ eS).symm
                              have eS := (hD22 _ eS).symm
                              subst eS
                              exact xRet [] [4] (e3.trans (e7.trans (e10.trans (e16.trans (e20.trans (e29.trans (e39.trans (e46.trans (e49.trans (e52.trans (e55.trans e58))))))))))) ⟨by kernel_rfl, by kernel_rfl⟩ (fun _ _ h => h)
                            · have hS := cond_F h59 hS
                              refine xSk ?_
                              refine wpq_then ?_
                              refine xSub [(0, vs Al l cl), (5, vp bd13 0), (7, vp bd17 0), (9, vi ((landK .i64 steps 1023) + 1)), (10, vi ((s27.1 : Nat) : Int)), (11, vp b36 0), (12, vp b40 0)] ?_
                              refine xSq ?_
                              refine xRg ?_
                              refine xB 3 [(2, 0)] [(0, vs Al l cl), (5, vp bd13 0), (7, vp bd17 0), (9, vi ((landK .i64 steps 1023) + 1)), (10, vi ((s27.1 : Nat) : Int)), (11, vp b36 0), (118, vs A37_0_a1_in_ y37.2.2.1.a1.in_ c37_0_a1_in_)] ?_
                              have f37_0_a1_in_ := f37_0_a1_in_.mono (e46.trans (e49.trans (e52.trans (e55.trans e58)))).b
                              obtain ⟨y60, hy60, hS⟩ := bindO_T hS
                              refine xE (eC 0 (fun g' lr eb ln => c17 g' (y37.2.2.1.a1.in_ : List UInt8) A37_0_a1_in_ c37_0_a1_in_ ((f37_0_a1_in_.mono g57.br).mono lr) hy60)) ?_
                              rintro _ g61 _ e62 ⟨_, rfl, A60_0, c60_0, k60_0, A60_2, c60_2, k60_2, rfl, rfl, h60_0, h60_2⟩
                              have nh60_0 := h60_0.len
                              have nh60_2 := h60_2.len
                              refine xB 11 [] [(0, vs Al l cl), (5, vp bd13 0), (7, vp bd17 0), (9, vi ((landK .i64 steps 1023) + 1)), (10, vi ((s27.1 : Nat) : Int)), (11, vp b36 0), (17, vs A60_0 y60.1 c60_0), (18, vb y60.2.1), (19, vs A60_2 y60.2.2.1 c60_2), (20, vb y60.2.2.2.1), (21, vi y60.2.2.2.2)] ?_
                              refine xRe ?_
                              refine wpq_then ?_
                              refine xSq ?_
                              refine wpq_freeze 0 (by kernel_rfl) h60_0 (fun g63 e64 f65 => ?_)
                              have h60_2 := h60_2.mono e64.b
                              refine wpq_freeze 1 (by kernel_rfl) h60_2 (fun g66 e67 f68 => ?_)
                              refine xDr 0 [12, 14, 21, 23] [] [some ⟨b40, 81, [vi y37.2.2.1.a0.steps, vi y37.2.2.1.a0.cycle, vb y37.2.2.1.a0.fresh, vs A37_0_a0_in_ y37.2.2.1.a0.in_ c37_0_a0_in_, vi y37.2.2.1.a1.steps, vi y37.2.2.1.a1.cycle, vb y37.2.2.1.a1.fresh, vs A37_0_a1_in_ y37.2.2.1.a1.in_ c37_0_a1_in_]⟩, some ⟨bd13, 131, (cNode y37.1 A37_la_input c37_la_input A37_la_heard_input c37_la_heard_input A37_la_set__in_ c37_la_set__in_)⟩, some ⟨bd17, 131, (cNode y37.2.1 A37_lb_input c37_lb_input A37_lb_heard_input c37_lb_heard_input A37_lb_set__in_ c37_lb_set__in_)⟩, some ⟨b36, 89, (cRound ({ (List.getD l s27.1 default) with lost := (⟨0, 0⟩ : TwoU), wrong := (⟨0, 0⟩ : TwoI) }) A32_one c32_one A34_two c34_two)⟩] 28 (fun RG => ?_) (fun _ _ _ _ _ h => h)
                              refine xT 25 [0, 1, 2] [] [some 2, some 3, some 4, some 5] [(0, vs Al l cl), (5, vp bd13 0), (7, vp bd17 0), (9, vi ((landK .i64 steps 1023) + 1)), (10, vi ((s27.1 : Nat) : Int)), (11, vp b36 0), (17, vs A60_0 y60.1 c60_0), (19, vs A60_2 y60.2.2.1 c60_2), (20, vb y60.2.2.2.1), (21, vi y60.2.2.2.2), (127, vb (!y60.2.1))] RG (Psi.le.refl _) ?_
                              refine wpa_grp 22 [true, true, true, true, true, true, false, false, false, false, false, false, false, false, false, false, false, false, false, false, false, false, false, false, false, false, false, false] [(0, vs Al l cl), (5, vp bd13 0), (7, vp bd17 0), (9, vi ((landK .i64 steps 1023) + 1)), (10, vi ((s27.1 : Nat) : Int)), (11, vp b36 0), (17, vs A60_0 y60.1 c60_0), (19, vs A60_2 y60.2.2.1 c60_2), (21, vi y60.2.2.2.2), (130, vb ((!y60.2.1) || (!y60.2.2.2.1)))] (fun hk2 => ?_) ?_
                              · refine wpq_split 127 (b := (!y60.2.1)) (by kernel_rfl) (fun q69 => ?_) (fun q69 => ?_)
                                · have q69n := not_eq_true_ q69
                                  refine xT 22 [3, 4, 5] [] [some 2, some 3, some 4, some 5] [(0, vs Al l cl), (5, vp bd13 0), (7, vp bd17 0), (9, vi ((landK .i64 steps 1023) + 1)), (10, vi ((s27.1 : Nat) : Int)), (11, vp b36 0), (17, vs A60_0 y60.1 c60_0), (19, vs A60_2 y60.2.2.1 c60_2), (21, vi y60.2.2.2.2), (128, undef), (129, undef), (130, vb true)] RG (Psi.le.refl _) ?_
                                  refine xSel [none, none, some 2, some 3, some 4, some 5] ?_
                                  refine wpq_re 130 (v := vb true) (Value.bool (((!y60.2.1) || (!y60.2.2.2.1)))) (by kernel_rfl) (re_or1 q69) ?_
                                  exact wpq_sub _ (by kernel_rfl) hk2
                                · have q69n := not_eq_false_ q69
                                  refine xT 22 [3, 4, 5] [] [some 2, some 3, some 4, some 5] [(0, vs Al l cl), (5, vp bd13 0), (7, vp bd17 0), (9, vi ((landK .i64 steps 1023) + 1)), (10, vi ((s27.1 : Nat) : Int)), (11, vp b36 0), (17, vs A60_0 y60.1 c60_0), (19, vs A60_2 y60.2.2.1 c60_2), (21, vi y60.2.2.2.2), (128, vb y60.2.2.2.1), (129, vb (!y60.2.2.2.1)), (130, vb (!y60.2.2.2.1))] RG (Psi.le.refl _) ?_
                                  refine xSel [none, none, some 2, some 3, some 4, some 5] ?_
                                  refine wpq_re 130 (v := vb (!y60.2.2.2.1)) (Value.bool (((!y60.2.1) || (!y60.2.2.2.1)))) (by kernel_rfl) (re_or0 q69) ?_
                                  exact wpq_sub _ (by kernel_rfl) hk2
                              · refine xT 21 [6] [] [some 2, some 3, some 4, some 5] [(0, vs Al l cl), (5, vp bd13 0), (7, vp bd17 0), (9, vi ((landK .i64 steps 1023) + 1)), (10, vi ((s27.1 : Nat) : Int)), (11, vp b36 0), (17, vs A60_0 y60.1 c60_0), (19, vs A60_2 y60.2.2.1 c60_2), (21, vi y60.2.2.2.2), (131, vb ((!y60.2.1) || (!y60.2.2.2.1)))] RG (Psi.le.refl _) ?_
                                refine wpa_grp 18 [true, true, true, true, true, true, true, true, true, true, false, false, false, false, false, false, false, false, false, false, false, false, false, false, false, false, false, false] [(0, vs Al l cl), (5, vp bd13 0), (7, vp bd17 0), (9, vi ((landK .i64 steps 1023) + 1)), (10, vi ((s27.1 : Nat) : Int)), (11, vp b36 0), (17, vs A60_0 y60.1 c60_0), (19, vs A60_2 y60.2.2.1 c60_2), (134, vb (((!y60.2.1) || (!y60.2.2.2.1)) || (y60.2.2.2.2 != 0)))] (fun hk6 => ?_) ?_
                                · refine wpq_split 131 (b := ((!y60.2.1) || (!y60.2.2.2.1))) (by kernel_rfl) (fun q70 => ?_) (fun q70 => ?_)
                                  · refine xT 18 [7, 8, 9] [] [some 2, some 3, some 4, some 5] [(0, vs Al l cl), (5, vp bd13 0), (7, vp bd17 0), (9, vi ((landK .i64 steps 1023) + 1)), (10, vi ((s27.1 : Nat) : Int)), (11, vp b36 0), (17, vs A60_0 y60.1 c60_0), (19, vs A60_2 y60.2.2.1 c60_2), (132, undef), (133, undef), (134, vb true)] RG (Psi.le.refl _) ?_
                                    refine xSel [none, none, some 2, some 3, some 4, some 5] ?_
                                    refine wpq_re 134 (v := vb true) (Value.bool ((((!y60.2.1) || (!y60.2.2.2.1)) || (y60.2.2.2.2 != 0)))) (by kernel_rfl) (re_or1 q70) ?_
                                    exact wpq_sub _ (by kernel_rfl) hk6
                                  · have q70l := (or_false_ q70).1
                                    have q70r := (or_false_ q70).2
                                    have q70ln := not_eq_false_ q70l
                                    have q70rn := not_eq_false_ q70r
                                    refine xT 18 [7, 8, 9] [] [some 2, some 3, some 4, some 5] [(0, vs Al l cl), (5, vp bd13 0), (7, vp bd17 0), (9, vi ((landK .i64 steps 1023) + 1)), (10, vi ((s27.1 : Nat) : Int)), (11, vp b36 0), (17, vs A60_0 y60.1 c60_0), (19, vs A60_2 y60.2.2.1 c60_2), (132, vi y60.2.2.2.2), (133, vb (y60.2.2.2.2 != 0)), (134, vb (y60.2.2.2.2 != 0))] RG (Psi.le.refl _) ?_
                                    refine xSel [none, none, some 2, some 3, some 4, some 5] ?_
                                    refine wpq_re 134 (v := vb (y60.2.2.2.2 != 0)) (Value.bool ((((!y60.2.1) || (!y60.2.2.2.1)) || (y60.2.2.2.2 != 0)))) (by kernel_rfl) (re_or0 q70) ?_
                                    exact wpq_sub _ (by kernel_rfl) hk6
                                · refine xT 17 [10] [] [some 2, some 3, some 4, some 5] [(0, vs Al l cl), (5, vp bd13 0), (7, vp bd17 0), (9, vi ((landK .i64 steps 1023) + 1)), (10, vi ((s27.1 : Nat) : Int)), (11, vp b36 0), (17, vs A60_0 y60.1 c60_0), (19, vs A60_2 y60.2.2.1 c60_2), (135, vb (((!y60.2.1) || (!y60.2.2.2.1)) || (y60.2.2.2.2 != 0)))] RG (Psi.le.refl _) ?_
                                  refine xGJoA hS 9 [true, true, true, true, true, true, true, true, true, true, true, true, true, true, true, true, true, true, true, false, false, false, false, false, false, false, false, false] (fun g own sl t71 => own = [some ⟨b40, 81, [vi y37.2.2.1.a0.steps, vi y37.2.2.1.a0.cycle, vb y37.2.2.1.a0.fresh, vs A37_0_a0_in_ y37.2.2.1.a0.in_ c37_0_a0_in_, vi y37.2.2.1.a1.steps, vi y37.2.2.1.a1.cycle, vb y37.2.2.1.a1.fresh, vs A37_0_a1_in_ y37.2.2.1.a1.in_ c37_0_a1_in_]⟩, some ⟨bd13, 131, (cNode y37.1 A37_la_input c37_la_input A37_la_heard_input c37_la_heard_input A37_la_set__in_ c37_la_set__in_)⟩, some ⟨bd17, 131, (cNode y37.2.1 A37_lb_input c37_lb_input A37_lb_heard_input c37_lb_heard_input A37_lb_set__in_ c37_lb_set__in_)⟩, some ⟨b36, 89, (cRound ({ (List.getD l s27.1 default) with lost := (⟨0, 0⟩ : TwoU), wrong := (⟨0, 0⟩ : TwoI) }) A32_one c32_one A34_two c34_two)⟩] ∧ sl = [(0, vs Al l cl), (5, vp bd13 0), (7, vp bd17 0), (9, vi ((landK .i64 steps 1023) + 1)), (10, vi ((s27.1 : Nat) : Int)), (11, vp b36 0), (19, vs A60_2 y60.2.2.1 c60_2), (143, vb t71)]) ?_ ?_
                                  · rintro g72 _ _ t71 e73 ⟨rfl, rfl⟩ hS
                                    refine xT 8 [19] [] [some 0, some 1, some 2, some 3] [(0, vs Al l cl), (5, vp bd13 0), (7, vp bd17 0), (9, vi ((landK .i64 steps 1023) + 1)), (10, vi ((s27.1 : Nat) : Int)), (11, vp b36 0), (19, vs A60_2 y60.2.2.1 c60_2), (144, vb t71)] RG e73.r ?_
                                    refine xGJoA hS 0 [true, true, true, true, true, true, true, true, true, true, true, true, true, true, true, true, true, true, true, true, true, true, true, true, true, true, true, true] (fun g own sl t74 => own = [some ⟨b40, 81, [vi y37.2.2.1.a0.steps, vi y37.2.2.1.a0.cycle, vb y37.2.2.1.a0.fresh, vs A37_0_a0_in_ y37.2.2.1.a0.in_ c37_0_a0_in_, vi y37.2.2.1.a1.steps, vi y37.2.2.1.a1.cycle, vb y37.2.2.1.a1.fresh, vs A37_0_a1_in_ y37.2.2.1.a1.in_ c37_0_a1_in_]⟩, some ⟨bd13, 131, (cNode y37.1 A37_la_input c37_la_input A37_la_heard_input c37_la_heard_input A37_la_set__in_ c37_la_set__in_)⟩, some ⟨bd17, 131, (cNode y37.2.1 A37_lb_input c37_lb_input A37_lb_heard_input c37_lb_heard_input A37_lb_set__in_ c37_lb_set__in_)⟩, some ⟨b36, 89, (cRound ({ (List.getD l s27.1 default) with lost := (⟨0, 0⟩ : TwoU), wrong := (⟨0, 0⟩ : TwoI) }) A32_one c32_one A34_two c34_two)⟩] ∧ sl = [(0, vs Al l cl), (5, vp bd13 0), (7, vp bd17 0), (9, vi ((landK .i64 steps 1023) + 1)), (10, vi ((s27.1 : Nat) : Int)), (152, vb t74)]) ?_ ?_
                                    · rintro g75 _ _ t74 e76 ⟨rfl, rfl⟩ hS
                                      refine xAe (lds := [12, 14, 21, 23]) ?_
                                      refine wpq_then ?_
                                      refine xCd (t74) (fun h77 => ?_) (fun h77 => ?_)
                                      · have hS := cond_T h77 hS
                                        refine xSq ?_
                                        refine xRg ?_
                                        refine xB 1 [] [(4, vb false)] ?_
                                        refine xRe ?_
                                        refine wpq_then ?_
                                        have eS := (Option.some.inj hS).symm
                                        have eS := (hD27 _ eS).symm
                                        have eS := (hD22 _ eS).symm
                                        subst eS
                                        exact xRet [] [4] (e3.trans (e7.trans (e10.trans (e16.trans (e20.trans (e29.trans (e39.trans (e46.trans (e49.trans (e52.trans (e55.trans (e58.trans (e62.trans (e64.trans (e67.trans (e73.trans e76)))))))))))))))) ⟨by kernel_rfl, by kernel_rfl⟩ (fun _ _ h => h)
                                      · have hS := cond_F h77 hS
                                        refine xSk ?_
                                        refine wpq_blockN ?_
                                        refine wpq_then ?_
                                        refine xSub [(0, vs Al l cl), (5, vp bd13 0), (7, vp bd17 0), (9, vi ((landK .i64 steps 1023) + 1)), (10, vi ((s27.1 : Nat) : Int))] ?_
                                        refine xRg ?_
                                        obtain ⟨q78, hS⟩ := grd_T hS
                                        have q78p := of_decide_eq_true q78
                                        refine xB 1 [] [(0, vs Al l cl), (5, vp bd13 0), (7, vp bd17 0), (9, vi ((landK .i64 steps 1023) + 1)), (10, vi ((s27.1 : Nat) : Int)), (59, vi ((s27.1 : Nat) : Int))] ?_
                                        refine xV (qAdd .i64 (((s27.1 : Nat) : Int)) (1) (wr64 (by omega))) ?_
                                        refine xB 1 [] [(0, vs Al l cl), (5, vp bd13 0), (7, vp bd17 0), (9, vi ((landK .i64 steps 1023) + 1)), (10, vi (((s27.1 : Nat) : Int) + 1))] ?_
                                        refine xRe ?_
                                        refine wpq_thenN ?_
                                        have f37_lb_input := f37_lb_input.mono (e46.trans (e49.trans (e52.trans (e55.trans (e58.trans (e62.trans (e64.trans (e67.trans (e73.trans e76))))))))).b
                                        have f37_lb_heard_input := f37_lb_heard_input.mono (e46.trans (e49.trans (e52.trans (e55.trans (e58.trans (e62.trans (e64.trans (e67.trans (e73.trans e76))))))))).b
                                        have f37_lb_set__in_ := f37_lb_set__in_.mono (e46.trans (e49.trans (e52.trans (e55.trans (e58.trans (e62.trans (e64.trans (e67.trans (e73.trans e76))))))))).b
                                        have f37_la_input := f37_la_input.mono (e46.trans (e49.trans (e52.trans (e55.trans (e58.trans (e62.trans (e64.trans (e67.trans (e73.trans e76))))))))).b
                                        have f37_la_heard_input := f37_la_heard_input.mono (e46.trans (e49.trans (e52.trans (e55.trans (e58.trans (e62.trans (e64.trans (e67.trans (e73.trans e76))))))))).b
                                        have f37_la_set__in_ := f37_la_set__in_.mono (e46.trans (e49.trans (e52.trans (e55.trans (e58.trans (e62.trans (e64.trans (e67.trans (e73.trans e76))))))))).b
                                        refine xSel [some 2, some 1] ?_
                                        refine xSub [(0, vs Al l cl), (5, vp bd13 0), (7, vp bd17 0), (9, vi ((landK .i64 steps 1023) + 1)), (10, vi (((s27.1 : Nat) : Int) + 1))] ?_
                                        have eS := (Option.some.inj hS).symm
                                        exact hN27 _ eS _ _ _ (e39.trans (e46.trans (e49.trans (e52.trans (e55.trans (e58.trans (e62.trans (e64.trans (e67.trans (e73.trans e76)))))))))) ⟨A37_lb_input, c37_lb_input, A37_lb_heard_input, c37_lb_heard_input, A37_lb_set__in_, c37_lb_set__in_, A37_la_input, c37_la_input, A37_la_heard_input, c37_la_heard_input, A37_la_set__in_, c37_la_set__in_, by kernel_rfl, by kernel_rfl, f37_lb_input, f37_lb_heard_input, f37_lb_set__in_, f37_la_input, f37_la_heard_input, f37_la_set__in_⟩
                                    · intro u74 hS hN74
                                      refine wpq_split 144 (b := t71) (by kernel_rfl) (fun q79 => ?_) (fun q79 => ?_)
                                      · have hS := cond_T q79 hS
                                        refine xT 4 [20, 21, 22, 23] [] [some 0, some 1, some 2, some 3] [(0, vs Al l cl), (5, vp bd13 0), (7, vp bd17 0), (9, vi ((landK .i64 steps 1023) + 1)), (10, vi ((s27.1 : Nat) : Int)), (144, vb true), (145, undef), (146, undef), (147, undef), (148, undef)] RG e73.r ?_
                                        refine xO1 (lds := [12, 14, 21, 23]) 24 ?_
                                        refine xIb (lds := [12, 14, 21, 23]) [] ?_
                                        refine xO1 (lds := [12, 14, 21, 23]) 25 ?_
                                        refine xIb (lds := [12, 14, 21, 23]) [] ?_
                                        refine xT 0 [26, 27] [] [some 0, some 1, some 2, some 3] [(0, vs Al l cl), (5, vp bd13 0), (7, vp bd17 0), (9, vi ((landK .i64 steps 1023) + 1)), (10, vi ((s27.1 : Nat) : Int)), (145, undef), (146, undef), (147, undef), (148, undef), (149, undef), (150, undef), (151, undef), (152, vb true)] RG e73.r ?_
                                        refine xSub [(0, vs Al l cl), (5, vp bd13 0), (7, vp bd17 0), (9, vi ((landK .i64 steps 1023) + 1)), (10, vi ((s27.1 : Nat) : Int)), (152, vb true)] ?_
                                        exact hN74 _ (Option.some.inj hS).symm _ _ _ (Gh.le.refl _) ⟨by kernel_rfl, by kernel_rfl⟩
                                      · have hS := cond_F q79 hS
                                        refine xT 7 [20] [] [some 0, some 1, some 2, some 3] [(0, vs Al l cl), (5, vp bd13 0), (7, vp bd17 0), (9, vi ((landK .i64 steps 1023) + 1)), (10, vi ((s27.1 : Nat) : Int)), (11, vp b36 0), (144, vb false), (145, vs A60_2 y60.2.2.1 c60_2)] RG e73.r ?_
                                        refine xTv 21 [some 0, some 1, some 2, some 3] RG e73.r (qStr (f68.mono g66.br)) ?_
                                        refine xT 4 [22, 23] [(23, 3)] [some 0, some 1, some 2, some 3] [(0, vs Al l cl), (5, vp bd13 0), (7, vp bd17 0), (9, vi ((landK .i64 steps 1023) + 1)), (10, vi ((s27.1 : Nat) : Int)), (144, vb false), (145, vs A60_2 y60.2.2.1 c60_2), (146, vt y60.2.2.1), (147, vp b36 1), (148, vs A34_two ((List.getD l s27.1 default).two) c34_two)] RG e73.r ?_
                                        have f34_two := f34_two.mono (e39.trans (e46.trans (e49.trans (e52.trans (e55.trans (e58.trans (e62.trans (e64.trans (e67.trans e73))))))))).b
                                        obtain ⟨y80, hy80, hS⟩ := bindO_T hS
                                        refine xO1 (lds := [12, 14, 21, 23]) 24 ?_
                                        refine xIe (lds := [12, 14, 21, 23]) e73.r (eC 0 (fun g' lr eb ln => c14 g' ((List.getD l s27.1 default).two : List UInt8) A34_two c34_two (20 : Int) (by rw [eb]; exact f34_two) hy80)) ?_
                                        rintro _ g81 _ e82 ⟨_, rfl, A80_0, c80_0, rfl, rfl, f80_0⟩
                                        refine kk [some 0, some 1, some 2, some 3] ?_
                                        have nf80_0 := f80_0.len
                                        refine xO1 (lds := [12, 14, 21, 23]) 25 ?_
                                        refine xIv (lds := [12, 14, 21, 23]) (qStr (f80_0.mono g81.br)) ?_
                                        refine xTp 26 RG (fun _ => (qNeS (y60.2.2.1) (y80))) ?_
                                        refine xT 0 [27] [] [some 0, some 1, some 2, some 3] [(0, vs Al l cl), (5, vp bd13 0), (7, vp bd17 0), (9, vi ((landK .i64 steps 1023) + 1)), (10, vi ((s27.1 : Nat) : Int)), (145, vs A60_2 y60.2.2.1 c60_2), (146, vt y60.2.2.1), (147, vp b36 1), (148, vs A34_two ((List.getD l s27.1 default).two) c34_two), (149, vs A80_0 y80 c80_0), (150, vt y80), (151, vb (!(y60.2.2.1 == y80))), (152, vb (!(y60.2.2.1 == y80)))] RG (e73.trans e82).r ?_
                                        refine xSub [(0, vs Al l cl), (5, vp bd13 0), (7, vp bd17 0), (9, vi ((landK .i64 steps 1023) + 1)), (10, vi ((s27.1 : Nat) : Int)), (152, vb (!(y60.2.2.1 == y80)))] ?_
                                        exact hN74 _ (Option.some.inj hS).symm _ _ _ e82 ⟨by kernel_rfl, by kernel_rfl⟩
                                  · intro u71 hS hN71
                                    refine wpq_split 135 (b := (((!y60.2.1) || (!y60.2.2.2.1)) || (y60.2.2.2.2 != 0))) (by kernel_rfl) (fun q83 => ?_) (fun q83 => ?_)
                                    · have hS := cond_T q83 hS
                                      refine xT 13 [11, 12, 13, 14] [] [some 2, some 3, some 4, some 5] [(0, vs Al l cl), (5, vp bd13 0), (7, vp bd17 0), (9, vi ((landK .i64 steps 1023) + 1)), (10, vi ((s27.1 : Nat) : Int)), (11, vp b36 0), (19, vs A60_2 y60.2.2.1 c60_2), (135, vb true), (136, undef), (137, undef), (138, undef), (139, undef)] RG (Psi.le.refl _) ?_
                                      refine xO1 (lds := [12, 14, 21, 23]) 15 ?_
                                      refine xIb (lds := [12, 14, 21, 23]) [] ?_
                                      refine xO1 (lds := [12, 14, 21, 23]) 16 ?_
                                      refine xIb (lds := [12, 14, 21, 23]) [] ?_
                                      refine xT 9 [17, 18] [] [some 2, some 3, some 4, some 5] [(0, vs Al l cl), (5, vp bd13 0), (7, vp bd17 0), (9, vi ((landK .i64 steps 1023) + 1)), (10, vi ((s27.1 : Nat) : Int)), (11, vp b36 0), (19, vs A60_2 y60.2.2.1 c60_2), (136, undef), (137, undef), (138, undef), (139, undef), (140, undef), (141, undef), (142, undef), (143, vb true)] RG (Psi.le.refl _) ?_
                                      refine xSel [some 2, some 3, some 4, some 5] ?_
                                      refine xSub [(0, vs Al l cl), (5, vp bd13 0), (7, vp bd17 0), (9, vi ((landK .i64 steps 1023) + 1)), (10, vi ((s27.1 : Nat) : Int)), (11, vp b36 0), (19, vs A60_2 y60.2.2.1 c60_2), (143, vb true)] ?_
                                      exact hN71 _ (Option.some.inj hS).symm _ _ _ (Gh.le.refl _) ⟨by kernel_rfl, by kernel_rfl⟩
                                    · have hS := cond_F q83 hS
                                      have q83l := (or_false_ q83).1
                                      have q83r := (or_false_ q83).2
                                      have q83ll := (or_false_ q83l).1
                                      have q83lr := (or_false_ q83l).2
                                      have q83lln := not_eq_false_ q83ll
                                      have q83lrn := not_eq_false_ q83lr
                                      have q83rp : y60.2.2.2.2 = 0 := eq_of_bne_false_ q83r
                                      have f65 := f65.mono e67.b
                                      refine xT 16 [11] [] [some 2, some 3, some 4, some 5] [(0, vs Al l cl), (5, vp bd13 0), (7, vp bd17 0), (9, vi ((landK .i64 steps 1023) + 1)), (10, vi ((s27.1 : Nat) : Int)), (11, vp b36 0), (19, vs A60_2 y60.2.2.1 c60_2), (135, vb false), (136, vs A60_0 y60.1 c60_0)] RG (Psi.le.refl _) ?_
                                      refine xTv 12 [some 2, some 3, some 4, some 5] RG (Psi.le.refl _) (qStr (f65.mono g66.br)) ?_
                                      refine xT 13 [13, 14] [(14, 3)] [some 2, some 3, some 4, some 5] [(0, vs Al l cl), (5, vp bd13 0), (7, vp bd17 0), (9, vi ((landK .i64 steps 1023) + 1)), (10, vi ((s27.1 : Nat) : Int)), (11, vp b36 0), (19, vs A60_2 y60.2.2.1 c60_2), (135, vb false), (136, vs A60_0 y60.1 c60_0), (137, vt y60.1), (138, vp b36 0), (139, vs A32_one ((List.getD l s27.1 default).one) c32_one)] RG (Psi.le.refl _) ?_
                                      have f32_one := f32_one.mono (e39.trans (e46.trans (e49.trans (e52.trans (e55.trans (e58.trans (e62.trans (e64.trans e67)))))))).b
                                      obtain ⟨y84, hy84, hS⟩ := bindO_T hS
                                      refine xO1 (lds := [12, 14, 21, 23]) 15 ?_
                                      refine xIe (lds := [12, 14, 21, 23]) (Psi.le.refl _) (eC 0 (fun g' lr eb ln => c14 g' ((List.getD l s27.1 default).one : List UInt8) A32_one c32_one (20 : Int) (by rw [eb]; exact f32_one) hy84)) ?_
                                      rintro _ g85 _ e86 ⟨_, rfl, A84_0, c84_0, rfl, rfl, f84_0⟩
                                      refine kk [some 2, some 3, some 4, some 5] ?_
                                      have nf84_0 := f84_0.len
                                      refine xO1 (lds := [12, 14, 21, 23]) 16 ?_
                                      refine xIv (lds := [12, 14, 21, 23]) (qStr (f84_0.mono g85.br)) ?_
                                      refine xTp 17 RG (fun _ => (qNeS (y60.1) (y84))) ?_
                                      refine xT 9 [18] [] [some 2, some 3, some 4, some 5] [(0, vs Al l cl), (5, vp bd13 0), (7, vp bd17 0), (9, vi ((landK .i64 steps 1023) + 1)), (10, vi ((s27.1 : Nat) : Int)), (11, vp b36 0), (19, vs A60_2 y60.2.2.1 c60_2), (136, vs A60_0 y60.1 c60_0), (137, vt y60.1), (138, vp b36 0), (139, vs A32_one ((List.getD l s27.1 default).one) c32_one), (140, vs A84_0 y84 c84_0), (141, vt y84), (142, vb (!(y60.1 == y84))), (143, vb (!(y60.1 == y84)))] RG e86.r ?_
                                      refine xSel [some 2, some 3, some 4, some 5] ?_
                                      refine xSub [(0, vs Al l cl), (5, vp bd13 0), (7, vp bd17 0), (9, vi ((landK .i64 steps 1023) + 1)), (10, vi ((s27.1 : Nat) : Int)), (11, vp b36 0), (19, vs A60_2 y60.2.2.1 c60_2), (143, vb (!(y60.1 == y84)))] ?_
                                      exact hN71 _ (Option.some.inj hS).symm _ _ _ e86 ⟨by kernel_rfl, by kernel_rfl⟩
                          · intro u56 hS hN56
                            refine wpq_split 106 (b := t53) (by kernel_rfl) (fun q87 => ?_) (fun q87 => ?_)
                            · have hS := cond_T q87 hS
                              refine xB 8 [] [(0, vs Al l cl), (5, vp bd13 0), (7, vp bd17 0), (9, vi ((landK .i64 steps 1023) + 1)), (10, vi ((s27.1 : Nat) : Int)), (11, vp b36 0), (12, vp b40 0), (107, undef), (108, undef), (109, undef), (110, undef), (111, undef), (112, undef), (113, undef), (114, vb true)] ?_
                              refine xSub [(0, vs Al l cl), (5, vp bd13 0), (7, vp bd17 0), (9, vi ((landK .i64 steps 1023) + 1)), (10, vi ((s27.1 : Nat) : Int)), (11, vp b36 0), (12, vp b40 0), (114, vb true)] ?_
                              exact hN56 _ (Option.some.inj hS).symm _ _ _ (Gh.le.refl _) ⟨by kernel_rfl, by kernel_rfl⟩
                            · have hS := cond_F q87 hS
                              refine xB 1 [] [(0, vs Al l cl), (5, vp bd13 0), (7, vp bd17 0), (9, vi ((landK .i64 steps 1023) + 1)), (10, vi ((s27.1 : Nat) : Int)), (11, vp b36 0), (12, vp b40 0), (106, vb false), (107, vp bd13 0)] ?_
                              have f37_la_input := f37_la_input.mono (e46.trans (e49.trans (e52.trans e55))).b
                              have f37_la_heard_input := f37_la_heard_input.mono (e46.trans (e49.trans (e52.trans e55))).b
                              have f37_la_set__in_ := f37_la_set__in_.mono (e46.trans (e49.trans (e52.trans e55))).b
                              obtain ⟨y88, hy88, hS⟩ := letJ_T hS
                              refine xE (eC 0 (fun g' lr eb ln => c40 g' ⟨bd13, 0, none⟩ y37.1 A37_la_input c37_la_input A37_la_heard_input c37_la_heard_input A37_la_set__in_ c37_la_set__in_ (cells_lent' 1 bd13 0 (cNode y37.1 A37_la_input c37_la_input A37_la_heard_input c37_la_heard_input A37_la_set__in_ c37_la_set__in_) ln) ((f37_la_input.mono g54.br).mono lr) ((f37_la_heard_input.mono g54.br).mono lr) ((f37_la_set__in_.mono g54.br).mono lr) hy88)) ?_
                              rintro _ g89 _ e90 ⟨_, rfl, rfl, rfl⟩
                              obtain ⟨q91, hS⟩ := grd_T hS
                              have q91p := of_decide_eq_true q91
                              refine xB 2 [] [(0, vs Al l cl), (5, vp bd13 0), (7, vp bd17 0), (9, vi ((landK .i64 steps 1023) + 1)), (10, vi ((s27.1 : Nat) : Int)), (11, vp b36 0), (12, vp b40 0), (106, vb false), (107, vp bd13 0), (108, vi y88), (109, vi ((landK .i64 steps 1023) + 1)), (110, vi ((s27.1 : Nat) : Int))] ?_
                              refine xV (qAdd .i64 (((landK .i64 steps 1023) + 1)) (((s27.1 : Nat) : Int)) (wr64 (by omega))) ?_
                              refine xV (qAdd .i64 ((((landK .i64 steps 1023) + 1) + ((s27.1 : Nat) : Int))) (1) (wr64 (by omega))) ?_
                              refine xB 2 [] [(0, vs Al l cl), (5, vp bd13 0), (7, vp bd17 0), (9, vi ((landK .i64 steps 1023) + 1)), (10, vi ((s27.1 : Nat) : Int)), (11, vp b36 0), (12, vp b40 0), (107, vp bd13 0), (108, vi y88), (109, vi ((landK .i64 steps 1023) + 1)), (110, vi ((s27.1 : Nat) : Int)), (111, vi (((landK .i64 steps 1023) + 1) + ((s27.1 : Nat) : Int))), (112, vi ((((landK .i64 steps 1023) + 1) + ((s27.1 : Nat) : Int)) + 1)), (113, vb (y88 != ((((landK .i64 steps 1023) + 1) + ((s27.1 : Nat) : Int)) + 1))), (114, vb (y88 != ((((landK .i64 steps 1023) + 1) + ((s27.1 : Nat) : Int)) + 1)))] ?_
                              refine xSub [(0, vs Al l cl), (5, vp bd13 0), (7, vp bd17 0), (9, vi ((landK .i64 steps 1023) + 1)), (10, vi ((s27.1 : Nat) : Int)), (11, vp b36 0), (12, vp b40 0), (114, vb (y88 != ((((landK .i64 steps 1023) + 1) + ((s27.1 : Nat) : Int)) + 1)))] ?_
                              exact hN56 _ (Option.some.inj hS).symm _ _ _ e90 ⟨by kernel_rfl, by kernel_rfl⟩
                        · intro u53 hS hN53
                          refine wpq_split 101 (b := t50) (by kernel_rfl) (fun q92 => ?_) (fun q92 => ?_)
                          · have hS := cond_T q92 hS
                            refine xB 4 [] [(0, vs Al l cl), (5, vp bd13 0), (7, vp bd17 0), (9, vi ((landK .i64 steps 1023) + 1)), (10, vi ((s27.1 : Nat) : Int)), (11, vp b36 0), (12, vp b40 0), (102, undef), (103, undef), (104, undef), (105, vb true)] ?_
                            refine xSub [(0, vs Al l cl), (5, vp bd13 0), (7, vp bd17 0), (9, vi ((landK .i64 steps 1023) + 1)), (10, vi ((s27.1 : Nat) : Int)), (11, vp b36 0), (12, vp b40 0), (105, vb true)] ?_
                            exact hN53 _ hS.symm _ _ _ (Gh.le.refl _) ⟨by kernel_rfl, by kernel_rfl⟩
                          · have hS := cond_F q92 hS
                            refine xB 1 [] [(0, vs Al l cl), (5, vp bd13 0), (7, vp bd17 0), (9, vi ((landK .i64 steps 1023) + 1)), (10, vi ((s27.1 : Nat) : Int)), (11, vp b36 0), (12, vp b40 0), (101, vb false), (102, vp bd17 0)] ?_
                            have f37_lb_input := f37_lb_input.mono (e46.trans (e49.trans e52)).b
                            have f37_lb_heard_input := f37_lb_heard_input.mono (e46.trans (e49.trans e52)).b
                            have f37_lb_set__in_ := f37_lb_set__in_.mono (e46.trans (e49.trans e52)).b
                            obtain ⟨y93, hy93, hS⟩ := letJ_T hS
                            refine xE (eC 0 (fun g' lr eb ln => c41 g' ⟨bd17, 0, none⟩ y37.2.1 A37_lb_input c37_lb_input A37_lb_heard_input c37_lb_heard_input A37_lb_set__in_ c37_lb_set__in_ (cells_lent' 2 bd17 0 (cNode y37.2.1 A37_lb_input c37_lb_input A37_lb_heard_input c37_lb_heard_input A37_lb_set__in_ c37_lb_set__in_) ln) ((f37_lb_input.mono g51.br).mono lr) ((f37_lb_heard_input.mono g51.br).mono lr) ((f37_lb_set__in_.mono g51.br).mono lr) hy93)) ?_
                            rintro _ g94 _ e95 ⟨_, rfl, rfl, rfl⟩
                            refine xB 2 [] [(0, vs Al l cl), (5, vp bd13 0), (7, vp bd17 0), (9, vi ((landK .i64 steps 1023) + 1)), (10, vi ((s27.1 : Nat) : Int)), (11, vp b36 0), (12, vp b40 0), (102, vp bd17 0), (103, vy y93), (104, vb (y93 != 3)), (105, vb (y93 != 3))] ?_
                            refine xSub [(0, vs Al l cl), (5, vp bd13 0), (7, vp bd17 0), (9, vi ((landK .i64 steps 1023) + 1)), (10, vi ((s27.1 : Nat) : Int)), (11, vp b36 0), (12, vp b40 0), (105, vb (y93 != 3))] ?_
                            exact hN53 _ hS.symm _ _ _ e95 ⟨by kernel_rfl, by kernel_rfl⟩
                      · intro u50 hS hN50
                        refine wpq_split 96 (b := t47) (by kernel_rfl) (fun q96 => ?_) (fun q96 => ?_)
                        · have hS := cond_T q96 hS
                          refine xB 4 [] [(0, vs Al l cl), (5, vp bd13 0), (7, vp bd17 0), (9, vi ((landK .i64 steps 1023) + 1)), (10, vi ((s27.1 : Nat) : Int)), (11, vp b36 0), (12, vp b40 0), (97, undef), (98, undef), (99, undef), (100, vb true)] ?_
                          refine xSel [some 1, some 2, some 3, some 4] ?_
                          refine xSub [(0, vs Al l cl), (5, vp bd13 0), (7, vp bd17 0), (9, vi ((landK .i64 steps 1023) + 1)), (10, vi ((s27.1 : Nat) : Int)), (11, vp b36 0), (12, vp b40 0), (100, vb true)] ?_
                          exact hN50 _ hS.symm _ _ _ (Gh.le.refl _) ⟨by kernel_rfl, by kernel_rfl⟩
                        · have hS := cond_F q96 hS
                          refine xB 1 [] [(0, vs Al l cl), (5, vp bd13 0), (7, vp bd17 0), (9, vi ((landK .i64 steps 1023) + 1)), (10, vi ((s27.1 : Nat) : Int)), (11, vp b36 0), (12, vp b40 0), (96, vb false), (97, vp bd13 0)] ?_
                          have f37_la_input := f37_la_input.mono (e46.trans e49).b
                          have f37_la_heard_input := f37_la_heard_input.mono (e46.trans e49).b
                          have f37_la_set__in_ := f37_la_set__in_.mono (e46.trans e49).b
                          obtain ⟨y97, hy97, hS⟩ := letJ_T hS
                          refine xE (eC 0 (fun g' lr eb ln => c41 g' ⟨bd13, 0, none⟩ y37.1 A37_la_input c37_la_input A37_la_heard_input c37_la_heard_input A37_la_set__in_ c37_la_set__in_ (cells_lent' 2 bd13 0 (cNode y37.1 A37_la_input c37_la_input A37_la_heard_input c37_la_heard_input A37_la_set__in_ c37_la_set__in_) ln) ((f37_la_input.mono g48.br).mono lr) ((f37_la_heard_input.mono g48.br).mono lr) ((f37_la_set__in_.mono g48.br).mono lr) hy97)) ?_
                          rintro _ g98 _ e99 ⟨_, rfl, rfl, rfl⟩
                          refine xB 2 [] [(0, vs Al l cl), (5, vp bd13 0), (7, vp bd17 0), (9, vi ((landK .i64 steps 1023) + 1)), (10, vi ((s27.1 : Nat) : Int)), (11, vp b36 0), (12, vp b40 0), (97, vp bd13 0), (98, vy y97), (99, vb (y97 != 2)), (100, vb (y97 != 2))] ?_
                          refine xSel [some 1, some 2, some 3, some 4] ?_
                          refine xSub [(0, vs Al l cl), (5, vp bd13 0), (7, vp bd17 0), (9, vi ((landK .i64 steps 1023) + 1)), (10, vi ((s27.1 : Nat) : Int)), (11, vp b36 0), (12, vp b40 0), (100, vb (y97 != 2))] ?_
                          exact hN50 _ hS.symm _ _ _ e99 ⟨by kernel_rfl, by kernel_rfl⟩
                    · intro u47 hS hN47
                      refine wpq_split 91 (b := t44) (by kernel_rfl) (fun q100 => ?_) (fun q100 => ?_)
                      · have hS := cond_T q100 hS
                        refine xB 4 [] [(0, vs Al l cl), (5, vp bd13 0), (7, vp bd17 0), (9, vi ((landK .i64 steps 1023) + 1)), (10, vi ((s27.1 : Nat) : Int)), (11, vp b36 0), (12, vp b40 0), (92, undef), (93, undef), (94, undef), (95, vb true)] ?_
                        refine xSub [(0, vs Al l cl), (5, vp bd13 0), (7, vp bd17 0), (9, vi ((landK .i64 steps 1023) + 1)), (10, vi ((s27.1 : Nat) : Int)), (11, vp b36 0), (12, vp b40 0), (95, vb true)] ?_
                        exact hN47 _ hS.symm _ _ _ (Gh.le.refl _) ⟨by kernel_rfl, by kernel_rfl⟩
                      · have hS := cond_F q100 hS
                        refine xB 4 [(9, 0)] [(0, vs Al l cl), (5, vp bd13 0), (7, vp bd17 0), (9, vi ((landK .i64 steps 1023) + 1)), (10, vi ((s27.1 : Nat) : Int)), (11, vp b36 0), (12, vp b40 0), (92, vp b43 1), (93, vy y37.2.2.2.2.2.1.a1), (94, vb (y37.2.2.2.2.2.1.a1 != 4)), (95, vb (y37.2.2.2.2.2.1.a1 != 4))] ?_
                        refine xSub [(0, vs Al l cl), (5, vp bd13 0), (7, vp bd17 0), (9, vi ((landK .i64 steps 1023) + 1)), (10, vi ((s27.1 : Nat) : Int)), (11, vp b36 0), (12, vp b40 0), (95, vb (y37.2.2.2.2.2.1.a1 != 4))] ?_
                        exact hN47 _ hS.symm _ _ _ (Gh.le.refl _) ⟨by kernel_rfl, by kernel_rfl⟩
                  · intro u44 hS hN44
                    refine wpq_split 86 (b := (!y37.2.2.2.2.2.2)) (by kernel_rfl) (fun q101 => ?_) (fun q101 => ?_)
                    · have hS := cond_T q101 hS
                      have q101n := not_eq_true_ q101
                      refine xB 4 [] [(0, vs Al l cl), (5, vp bd13 0), (7, vp bd17 0), (9, vi ((landK .i64 steps 1023) + 1)), (10, vi ((s27.1 : Nat) : Int)), (11, vp b36 0), (12, vp b40 0), (15, vp b43 0), (87, undef), (88, undef), (89, undef), (90, vb true)] ?_
                      refine xSel [some 0, some 3, some 4, some 5, some 6] ?_
                      refine xSub [(0, vs Al l cl), (5, vp bd13 0), (7, vp bd17 0), (9, vi ((landK .i64 steps 1023) + 1)), (10, vi ((s27.1 : Nat) : Int)), (11, vp b36 0), (12, vp b40 0), (15, vp b43 0), (90, vb true)] ?_
                      exact hN44 _ hS.symm _ _ _ (Gh.le.refl _) ⟨by kernel_rfl, by kernel_rfl⟩
                    · have hS := cond_F q101 hS
                      have q101n := not_eq_false_ q101
                      refine xB 4 [(4, 0)] [(0, vs Al l cl), (5, vp bd13 0), (7, vp bd17 0), (9, vi ((landK .i64 steps 1023) + 1)), (10, vi ((s27.1 : Nat) : Int)), (11, vp b36 0), (12, vp b40 0), (15, vp b43 0), (87, vp b43 0), (88, vy y37.2.2.2.2.2.1.a0), (89, vb (y37.2.2.2.2.2.1.a0 != 4)), (90, vb (y37.2.2.2.2.2.1.a0 != 4))] ?_
                      refine xSel [some 0, some 3, some 4, some 5, some 6] ?_
                      refine xSub [(0, vs Al l cl), (5, vp bd13 0), (7, vp bd17 0), (9, vi ((landK .i64 steps 1023) + 1)), (10, vi ((s27.1 : Nat) : Int)), (11, vp b36 0), (12, vp b40 0), (15, vp b43 0), (90, vb (y37.2.2.2.2.2.1.a0 != 4))] ?_
                      exact hN44 _ hS.symm _ _ _ (Gh.le.refl _) ⟨by kernel_rfl, by kernel_rfl⟩
                · have hS := cond_F h31 hS
                  refine xEx 0 ?_
                  refine wpq_thenX ?_
                  refine wpq_thenX ?_
                  refine wpq_blockE ?_
                  refine xSel [] ?_
                  refine xSub [] ?_
                  have eS := (Option.some.inj hS).symm
                  have eS := (hD27 _ eS).symm
                  exact hN22 _ eS _ _ _ e29 ⟨by kernel_rfl, by kernel_rfl⟩
        · intro u18 hS hN18
          refine wpq_split 45 (b := (y14.2 != 0)) (by kernel_rfl) (fun q102 => ?_) (fun q102 => ?_)
          · have hS := cond_T q102 hS
            have q102p : ¬ (y14.2 = 0) := ne_of_bne_ q102
            refine xB 5 [] [(0, vs Al l cl), (5, vp bd13 0), (7, vp bd17 0), (9, vi ((landK .i64 steps 1023) + 1)), (50, vb true)] ?_
            have fd17_input := fd17_input.mono e16.b
            have fd17_heard_input := fd17_heard_input.mono e16.b
            have fd17_set__in_ := fd17_set__in_.mono e16.b
            refine xSel [some 1, some 0] ?_
            refine xSub [(0, vs Al l cl), (5, vp bd13 0), (7, vp bd17 0), (9, vi ((landK .i64 steps 1023) + 1)), (50, vb true)] ?_
            exact hN18 _ hS.symm _ _ _ (Gh.le.refl _) ⟨Ad17_input, cd17_input, Ad17_heard_input, cd17_heard_input, Ad17_set__in_, cd17_set__in_, by kernel_rfl, by kernel_rfl, fd17_input, fd17_heard_input, fd17_set__in_⟩
          · have hS := cond_F q102 hS
            have q102p : y14.2 = 0 := eq_of_bne_false_ q102
            refine xB 2 [] [(0, vs Al l cl), (5, vp bd13 0), (7, vp bd17 0), (9, vi ((landK .i64 steps 1023) + 1)), (45, vb false), (46, vp bd17 0), (47, vi ((landK .i64 steps 1023) + 1))] ?_
            refine xSel [some 1, some 0] ?_
            have fd17_input := fd17_input.mono e16.b
            have fd17_heard_input := fd17_heard_input.mono e16.b
            have fd17_set__in_ := fd17_set__in_.mono e16.b
            obtain ⟨y103, hy103, hS⟩ := letJ_T hS
            refine xE (eC 1 (fun g' lr eb ln => c38 g' bd17 d17 Ad17_input cd17_input Ad17_heard_input cd17_heard_input Ad17_set__in_ cd17_set__in_ (((landK .i64 steps 1023) + 1) : Int) (by rw [eb]; exact fd17_input) (by rw [eb]; exact fd17_heard_input) (by rw [eb]; exact fd17_set__in_) hy103)) ?_
            rintro _ g104 _ e105 ⟨_, rfl, A103_n_input, c103_n_input, A103_n_heard_input, c103_n_heard_input, A103_n_set__in_, c103_n_set__in_, rfl, rfl, f103_n_input, f103_n_heard_input, f103_n_set__in_⟩
            have nf103_n_input := f103_n_input.len
            have nf103_n_heard_input := f103_n_heard_input.len
            have nf103_n_set__in_ := f103_n_set__in_.len
            refine xB 2 [] [(0, vs Al l cl), (5, vp bd13 0), (7, vp bd17 0), (9, vi ((landK .i64 steps 1023) + 1)), (50, vb (y103.2 != 0))] ?_
            refine xSub [(0, vs Al l cl), (5, vp bd13 0), (7, vp bd17 0), (9, vi ((landK .i64 steps 1023) + 1)), (50, vb (y103.2 != 0))] ?_
            exact hN18 _ hS.symm _ _ _ e105 ⟨A103_n_input, c103_n_input, A103_n_heard_input, c103_n_heard_input, A103_n_set__in_, c103_n_set__in_, by kernel_rfl, by kernel_rfl, f103_n_input, f103_n_heard_input, f103_n_set__in_⟩

def o33 (x : Sett) : Sett :=
  (x)
set_option maxRecDepth 100000 in
theorem c33 (g : Gh) (x : Sett) (Ax_in_ : Option Addr) (cx_in_ : Nat) (fx_in_ : Arr g.b tyU8 Ax_in_ cx_in_ x.in_) {r : Sett} (hS : o33 x = r) :
    Ctr Try.prog 33 [Value.agg #[vi x.steps, vi x.cycle, vb x.fresh, vs Ax_in_ x.in_ cx_in_]] g [] (fun v ψ o => ∃ (Ar_0_in_ : Option Addr) (cr_0_in_ : Nat), v = Value.agg #[vi r.steps, vi r.cycle, vb r.fresh, vs Ar_0_in_ r.in_ cr_0_in_] ∧ o = [] ∧ Arr ψ tyU8 Ar_0_in_ cr_0_in_ r.in_) := by
  unfold o33 at hS
  refine xFn Try.f33 (Try.f33.body.getD .skip) 12 ?_
  have nfx_in_ := fx_in_.len
  refine xSq ?_
  refine xRg ?_
  refine xE eB ?_
  rintro _ _ _ - ⟨b1, rfl, rfl, rfl⟩
  refine xE eB ?_
  rintro _ _ _ - ⟨b2, rfl, rfl, rfl⟩
  refine xRe ?_
  refine wpq_then ?_
  refine xSub [(1, vp b1 0), (2, vp b2 0)] ?_
  refine xSq ?_
  refine xRg ?_
  refine xBo 10 [(1, 1), (3, 1), (5, 1), (7, 1), (9, 0)] [some ⟨b2, 67, (cSett x Ax_in_ cx_in_)⟩, some ⟨b1, 64, (cSett x Ax_in_ cx_in_)⟩] [(2, vp b2 0)] ?_
  refine xRe ?_
  refine wpq_then ?_
  have eS := hS.symm
  subst eS
  exact xRetC [] [(2, 0)] (Gh.le.refl _) ⟨Ax_in_, cx_in_, by kernel_rfl, by kernel_rfl, fx_in_⟩ (fun _ _ h => h)

def o35 (a : Sett) (b : Sett) : Bool :=
  ((((((a.steps == b.steps) && (a.cycle == b.cycle)) && (a.fresh == b.fresh)) && (a.in_ == b.in_))))
set_option maxRecDepth 100000 in
theorem c35 (g : Gh) (a : Sett) (Aa_in_ : Option Addr) (ca_in_ : Nat) (b : Sett) (Ab_in_ : Option Addr) (cb_in_ : Nat) (fa_in_ : Arr g.r tyU8 Aa_in_ ca_in_ a.in_) (fb_in_ : Arr g.r tyU8 Ab_in_ cb_in_ b.in_) {r : Bool} (hS : o35 a b = r) :
    Ctr Try.prog 35 [Value.agg #[vi a.steps, vi a.cycle, vb a.fresh, vs Aa_in_ a.in_ ca_in_], Value.agg #[vi b.steps, vi b.cycle, vb b.fresh, vs Ab_in_ b.in_ cb_in_]] g [] (fun v ψ o => v = vb r ∧ o = []) := by
  unfold o35 at hS
  refine xFn Try.f35 (Try.f35.body.getD .skip) 33 ?_
  have nfa_in_ := fa_in_.len
  have nfb_in_ := fb_in_.len
  refine xSq ?_
  refine xRg ?_
  refine xE eB ?_
  rintro _ _ _ - ⟨b1, rfl, rfl, rfl⟩
  refine xE eB ?_
  rintro _ _ _ - ⟨b2, rfl, rfl, rfl⟩
  refine xB 1 [] [(2, vp b1 0), (3, vp b2 0)] ?_
  refine xRe ?_
  refine wpq_then ?_
  refine xSq ?_
  refine xRg ?_
  refine xB 6 [(1, 1), (3, 0)] [(2, vp b1 0), (3, vp b2 0), (10, vb (a.steps == b.steps))] ?_
  refine wpr_grp 12 [(2, vp b1 0), (3, vp b2 0), (16, vb ((a.steps == b.steps) && (a.cycle == b.cycle)))] (fun hk5 => ?_) ?_
  · refine wpq_split 10 (b := (a.steps == b.steps)) (by kernel_rfl) (fun q3 => ?_) (fun q3 => ?_)
    · have q3p : a.steps = b.steps := eq_of_beq q3
      refine xB 6 [(7, 1), (9, 0)] [(2, vp b1 0), (3, vp b2 0), (16, vb (a.cycle == b.cycle))] ?_
      refine wpq_re 16 (v := vb (a.cycle == b.cycle)) (Value.bool (((a.steps == b.steps) && (a.cycle == b.cycle)))) (by kernel_rfl) (re_and1 q3) ?_
      exact wpq_sub _ (by kernel_rfl) hk5
    · have q3p : ¬ (a.steps = b.steps) := ne_of_beq_false_ q3
      refine xB 6 [] [(2, vp b1 0), (3, vp b2 0), (16, vb false)] ?_
      refine wpq_re 16 (v := vb false) (Value.bool (((a.steps == b.steps) && (a.cycle == b.cycle)))) (by kernel_rfl) (re_and0 q3) ?_
      exact wpq_sub _ (by kernel_rfl) hk5
  · refine xB 1 [] [(2, vp b1 0), (3, vp b2 0), (17, vb ((a.steps == b.steps) && (a.cycle == b.cycle)))] ?_
    refine wpr_grp 19 [(2, vp b1 0), (3, vp b2 0), (23, vb (((a.steps == b.steps) && (a.cycle == b.cycle)) && (a.fresh == b.fresh)))] (fun hk12 => ?_) ?_
    · refine wpq_split 17 (b := ((a.steps == b.steps) && (a.cycle == b.cycle))) (by kernel_rfl) (fun q4 => ?_) (fun q4 => ?_)
      · have q4l := (and_true_ q4).1
        have q4r := (and_true_ q4).2
        have q4lp : a.steps = b.steps := eq_of_beq q4l
        have q4rp : a.cycle = b.cycle := eq_of_beq q4r
        refine xB 6 [(14, 1), (16, 0)] [(2, vp b1 0), (3, vp b2 0), (23, vb (a.fresh == b.fresh))] ?_
        refine wpq_re 23 (v := vb (a.fresh == b.fresh)) (Value.bool ((((a.steps == b.steps) && (a.cycle == b.cycle)) && (a.fresh == b.fresh)))) (by kernel_rfl) (re_and1 q4) ?_
        exact wpq_sub _ (by kernel_rfl) hk12
      · refine xB 6 [] [(2, vp b1 0), (3, vp b2 0), (23, vb false)] ?_
        refine wpq_re 23 (v := vb false) (Value.bool ((((a.steps == b.steps) && (a.cycle == b.cycle)) && (a.fresh == b.fresh)))) (by kernel_rfl) (re_and0 q4) ?_
        exact wpq_sub _ (by kernel_rfl) hk12
    · refine xB 1 [] [(2, vp b1 0), (3, vp b2 0), (24, vb (((a.steps == b.steps) && (a.cycle == b.cycle)) && (a.fresh == b.fresh)))] ?_
      refine wpr_grp 28 [(32, vb ((((a.steps == b.steps) && (a.cycle == b.cycle)) && (a.fresh == b.fresh)) && (a.in_ == b.in_)))] (fun hk19 => ?_) ?_
      · refine wpq_split 24 (b := (((a.steps == b.steps) && (a.cycle == b.cycle)) && (a.fresh == b.fresh))) (by kernel_rfl) (fun q5 => ?_) (fun q5 => ?_)
        · have q5l := (and_true_ q5).1
          have q5r := (and_true_ q5).2
          have q5ll := (and_true_ q5l).1
          have q5lr := (and_true_ q5l).2
          have q5llp : a.steps = b.steps := eq_of_beq q5ll
          have q5lrp : a.cycle = b.cycle := eq_of_beq q5lr
          have q5rp : a.fresh = b.fresh := eq_of_beq q5r
          refine xB 2 [(21, 1)] [(3, vp b2 0), (24, vb true), (26, vs Aa_in_ a.in_ ca_in_)] ?_
          refine xV (qStr fa_in_) ?_
          refine xB 2 [(24, 0)] [(24, vb true), (27, vt a.in_), (29, vs Ab_in_ b.in_ cb_in_)] ?_
          refine xV (qStr fb_in_) ?_
          refine xV (qEqS (a.in_) (b.in_)) ?_
          refine xB 1 [] [(32, vb (a.in_ == b.in_))] ?_
          refine wpq_re 32 (v := vb (a.in_ == b.in_)) (Value.bool (((((a.steps == b.steps) && (a.cycle == b.cycle)) && (a.fresh == b.fresh)) && (a.in_ == b.in_)))) (by kernel_rfl) (re_and1 q5) ?_
          exact wpq_sub _ (by kernel_rfl) hk19
        · refine xB 8 [] [(32, vb false)] ?_
          refine wpq_re 32 (v := vb false) (Value.bool (((((a.steps == b.steps) && (a.cycle == b.cycle)) && (a.fresh == b.fresh)) && (a.in_ == b.in_)))) (by kernel_rfl) (re_and0 q5) ?_
          exact wpq_sub _ (by kernel_rfl) hk19
      · refine xB 1 [] [(4, vb ((((a.steps == b.steps) && (a.cycle == b.cycle)) && (a.fresh == b.fresh)) && (a.in_ == b.in_)))] ?_
        refine xRe ?_
        refine wpq_then ?_
        have eS := hS.symm
        subst eS
        exact xRet [] [4] (Gh.le.refl _) ⟨by kernel_rfl, by kernel_rfl⟩ (fun _ _ h => h)

def o9_L0 (l : List Round) (s27 : Nat × Node × Node) : Option (Ctl (Nat × Node × Node) (Ctl (Unit) (Bool))) :=
  (cond ((decide (((s27.1 : Nat) : Int) < (((l).length : Nat) : Int)) && decide (((s27.1 : Nat) : Int) < 12))) (bindO (τ := Node × Node × TwoS × TwoB × TwoT × TwoU × Bool) (o39 s27.2.2 s27.2.1 (((s27.1 : Nat) : Int) : Int) (List.getD l s27.1 default)) fun y34 => (cond ((!y34.2.2.2.2.2.2)) (some (Ctl.done (Ctl.done ((false))))) (letJ (τ := Bool) (cond ((y34.2.2.2.2.2.1.a0 == 4)) (y34.2.2.2.2.2.1.a1 == 4) (false)) fun t42 => (joinO (τ := Unit) (ρ := Ctl (Nat × Node × Node) (Ctl (Unit) (Bool))) (cond (t42) (letJ (τ := Bool) (cond ((!y34.2.2.2.1.a0)) (true) (!y34.2.2.2.1.a1)) fun t61 => (letJ (τ := Bool) (cond (t61) (true) (!((y34.2.2.2.2.1.a0.lateral == y34.2.2.2.2.1.a1.lateral) && ((y34.2.2.2.2.1.a0.vertical == y34.2.2.2.2.1.a1.vertical) && ((y34.2.2.2.2.1.a0.phase == y34.2.2.2.2.1.a1.phase) && ((y34.2.2.2.2.1.a0.bank == y34.2.2.2.2.1.a1.bank) && ((y34.2.2.2.2.1.a0.speed == y34.2.2.2.2.1.a1.speed) && ((y34.2.2.2.2.1.a0.alt == y34.2.2.2.2.1.a1.alt) && (y34.2.2.2.2.1.a0.vs == y34.2.2.2.2.1.a1.vs))))))))) fun t64 => (letJ (τ := Bool) (cond (t64) (true) (letJ (τ := Int) (o40 y34.1) fun y85 => (letJ (τ := Int) (o40 y34.2.1) fun y88 => (y85 != y88)))) fun t67 => (letJ (τ := Bool) (cond (t67) (true) (letJ (τ := Sett) (o33 y34.2.2.1.a0) fun y75 => (letJ (τ := Sett) (o33 y34.2.2.1.a1) fun y78 => (letJ (τ := Bool) (o35 y75 y78) fun y81 => (!y81))))) fun t70 => (cond (t70) (some (Ctl.done (Ctl.done (Ctl.done ((false)))))) (some (Ctl.go ()))))))) (some (Ctl.go ()))) fun t45 => (letJ (τ := Int) (o41 y34.1) fun y48 => (letJ (τ := Bool) (cond ((y48 == 3)) (letJ (τ := Int) (o41 y34.2.1) fun y57 => (y57 == 3)) (false)) fun t51 => (cond (t51) (some (Ctl.done (Ctl.done ((false))))) (grd (decide (((s27.1 : Nat) : Int) + 1 ≤ 9223372036854775807)) (some (Ctl.go ((s27.1 + 1), (y34.2.1 : Node), (y34.1 : Node)))))))))))) (some (Ctl.done (Ctl.go ()))))
def o9 (l : List Round) (adopt : TwoI) : Option (Bool) :=
  (bindO (τ := Bool) (o13) fun y2 => (cond ((!y2)) (some ((false))) (letJ (τ := (Option Node) × Int) (o37 (1 : Int)) fun y6 => (letJ (τ := (Option Node) × Int) (o37 (2 : Int)) fun y9 => (cond (((Option.isNone (y6.1)) || (Option.isNone (y9.1)))) (some ((false))) (bindO (τ := Node) (y6.1) fun d14 => (letJ (τ := Node × Int) (o38 d14 ((landK .i64 adopt.a0 7) : Int)) fun y15 => (bindO (τ := Node) (y9.1) fun d18 => (letJ (τ := Node × Int) (o38 d18 ((landK .i64 adopt.a1 7) : Int)) fun y19 => (joinO (τ := Unit) (ρ := Bool) (loopO (σ := Nat × Node × Node) (ρ := Ctl (Unit) (Bool)) fuelN (o9_L0 l) (0, (y19.1 : Node), (y15.1 : Node))) fun t22 => (some ((true)))))))))))))
set_option maxRecDepth 100000 in
theorem c9 (g : Gh) (l : List Round) (Al : Option Addr) (cl : Nat) (adopt : TwoI) (fl : Arr g.b tyRound Al cl l) {r : Bool} (hS : o9 l adopt = some r) :
    Ctr Try.prog 9 [vs Al l cl, Value.agg #[vi adopt.a0, vi adopt.a1]] g [] (fun v ψ o => v = vb r ∧ o = []) := by
  unfold o9 at hS
  refine xFn Try.f9 (Try.f9.body.getD .skip) 116 ?_
  have nfl := fl.len
  refine xSq ?_
  refine xRg ?_
  refine xE eB ?_
  rintro _ _ _ - ⟨b1, rfl, rfl, rfl⟩
  refine xB 1 [] [(0, vs Al l cl), (3, vp b1 0)] ?_
  refine xRe ?_
  refine wpq_then ?_
  refine xSq ?_
  refine xSq ?_
  refine xRg ?_
  obtain ⟨y2, hy2, hS⟩ := bindO_T hS
  refine xE (eC 0 (fun g' lr eb ln => c13 g'  hy2)) ?_
  rintro _ g3 _ e4 ⟨_, rfl, rfl, rfl⟩
  refine xB 1 [] [(0, vs Al l cl), (3, vp b1 0), (16, vb (!y2))] ?_
  refine xRe ?_
  refine wpq_then ?_
  refine xCd ((!y2)) (fun h5 => ?_) (fun h5 => ?_)
  · have hS := cond_T h5 hS
    have h5n := not_eq_true_ h5
    refine xSq ?_
    refine xRg ?_
    refine xB 1 [] [(4, vb false)] ?_
    refine xRe ?_
    refine wpq_then ?_
    have eS := (Option.some.inj hS).symm
    subst eS
    exact xRet [] [4] e4 ⟨by kernel_rfl, by kernel_rfl⟩ (fun _ _ h => h)
  · have hS := cond_F h5 hS
    have h5n := not_eq_false_ h5
    refine xSk ?_
    refine wpq_then ?_
    refine xSub [(0, vs Al l cl), (3, vp b1 0)] ?_
    refine xSq ?_
    refine xRg ?_
    obtain ⟨y6, hy6, hS⟩ := letJ_T hS
    refine xE (eC 0 (fun g' lr eb ln => c37 g' (1 : Int) hy6)) ?_
    rintro _ g7 _ e8 ⟨_, rfl, v6_0, k6_0, rfl, rfl, hn6_0, hs6_0⟩
    refine xB 5 [] [(0, vs Al l cl), (3, vp b1 0), (5, v6_0)] ?_
    refine xRe ?_
    refine wpq_then ?_
    refine xSq ?_
    refine xRg ?_
    obtain ⟨y9, hy9, hS⟩ := letJ_T hS
    refine xE (eC 0 (fun g' lr eb ln => c37 g' (2 : Int) hy9)) ?_
    rintro _ g10 _ e11 ⟨_, rfl, v9_0, k9_0, rfl, rfl, hn9_0, hs9_0⟩
    refine xB 5 [] [(0, vs Al l cl), (3, vp b1 0), (5, v6_0), (7, v9_0)] ?_
    refine xRe ?_
    refine wpq_then ?_
    refine xSq ?_
    refine xSq ?_
    refine xRg ?_
    refine xB 1 [] [(0, vs Al l cl), (3, vp b1 0), (5, v6_0), (7, v9_0), (25, v6_0)] ?_
    refine xV (qPn hn6_0 (fun d h => by obtain ⟨_, _, _, _, _, _, _, h1, _⟩ := hs6_0 d h; exact ⟨_, h1⟩)) ?_
    refine xB 1 [] [(0, vs Al l cl), (3, vp b1 0), (5, v6_0), (7, v9_0), (27, vb (Option.isNone (y6.1)))] ?_
    refine wpr_grp 6 [(0, vs Al l cl), (3, vp b1 0), (5, v6_0), (7, v9_0), (30, vb ((Option.isNone (y6.1)) || (Option.isNone (y9.1))))] (fun hk2 => ?_) ?_
    · refine wpq_split 27 (b := (Option.isNone (y6.1))) (by kernel_rfl) (fun q12 => ?_) (fun q12 => ?_)
      · refine xB 3 [] [(0, vs Al l cl), (3, vp b1 0), (5, v6_0), (7, v9_0), (30, vb true)] ?_
        refine wpq_re 30 (v := vb true) (Value.bool (((Option.isNone (y6.1)) || (Option.isNone (y9.1))))) (by kernel_rfl) (re_or1 q12) ?_
        exact wpq_sub _ (by kernel_rfl) hk2
      · refine xB 1 [] [(0, vs Al l cl), (3, vp b1 0), (5, v6_0), (7, v9_0), (27, vb false), (28, v9_0)] ?_
        refine xV (qPn hn9_0 (fun d h => by obtain ⟨_, _, _, _, _, _, _, h1, _⟩ := hs9_0 d h; exact ⟨_, h1⟩)) ?_
        refine xB 1 [] [(0, vs Al l cl), (3, vp b1 0), (5, v6_0), (7, v9_0), (30, vb (Option.isNone (y9.1)))] ?_
        refine wpq_re 30 (v := vb (Option.isNone (y9.1))) (Value.bool (((Option.isNone (y6.1)) || (Option.isNone (y9.1))))) (by kernel_rfl) (re_or0 q12) ?_
        exact wpq_sub _ (by kernel_rfl) hk2
    · refine xRe ?_
      refine wpq_then ?_
      refine xCd (((Option.isNone (y6.1)) || (Option.isNone (y9.1)))) (fun h13 => ?_) (fun h13 => ?_)
      · have hS := cond_T h13 hS
        refine xSq ?_
        refine xRg ?_
        refine xB 1 [] [(4, vb false)] ?_
        refine xRe ?_
        refine wpq_then ?_
        have eS := (Option.some.inj hS).symm
        subst eS
        exact xRet [] [4] (e4.trans (e8.trans e11)) ⟨by kernel_rfl, by kernel_rfl⟩ (fun _ _ h => h)
      · have hS := cond_F h13 hS
        have h13l := (or_false_ h13).1
        have h13r := (or_false_ h13).2
        refine xSk ?_
        refine wpq_then ?_
        refine xSub [(0, vs Al l cl), (3, vp b1 0), (5, v6_0), (7, v9_0)] ?_
        refine xSq ?_
        refine xRg ?_
        have z1 := land64 adopt.a0 7 (by omega)
        refine xB 4 [(2, 2)] [(0, vs Al l cl), (3, vp b1 0), (5, v6_0), (7, v9_0), (31, v6_0), (34, vi (landK .i64 adopt.a0 7))] ?_
        obtain ⟨d14, ed14, hS⟩ := bindO_T hS
        obtain ⟨bd14, Ad14_input, cd14_input, Ad14_heard_input, cd14_heard_input, Ad14_set__in_, cd14_set__in_, rfl, rfl, fd14_input, fd14_heard_input, fd14_set__in_⟩ := hs6_0 d14 ed14
        have nfd14_input := fd14_input.len
        have nfd14_heard_input := fd14_heard_input.len
        have nfd14_set__in_ := fd14_set__in_.len
        refine xSel [some 1, some 0, some 2] ?_
        have fd14_input := fd14_input.mono e11.b
        have fd14_heard_input := fd14_heard_input.mono e11.b
        have fd14_set__in_ := fd14_set__in_.mono e11.b
        obtain ⟨y15, hy15, hS⟩ := letJ_T hS
        refine xE (eC 1 (fun g' lr eb ln => c38 g' bd14 d14 Ad14_input cd14_input Ad14_heard_input cd14_heard_input Ad14_set__in_ cd14_set__in_ ((landK .i64 adopt.a0 7) : Int) (by rw [eb]; exact fd14_input) (by rw [eb]; exact fd14_heard_input) (by rw [eb]; exact fd14_set__in_) hy15)) ?_
        rintro _ g16 _ e17 ⟨_, rfl, A15_n_input, c15_n_input, A15_n_heard_input, c15_n_heard_input, A15_n_set__in_, c15_n_set__in_, rfl, rfl, f15_n_input, f15_n_heard_input, f15_n_set__in_⟩
        have nf15_n_input := f15_n_input.len
        have nf15_n_heard_input := f15_n_heard_input.len
        have nf15_n_set__in_ := f15_n_set__in_.len
        refine xRe ?_
        refine wpq_then ?_
        refine xSub [(0, vs Al l cl), (3, vp b1 0), (5, vp bd14 0), (7, v9_0)] ?_
        refine xSq ?_
        refine xRg ?_
        have z2 := land64 adopt.a1 7 (by omega)
        refine xB 4 [(2, 2)] [(0, vs Al l cl), (5, vp bd14 0), (7, v9_0), (36, v9_0), (39, vi (landK .i64 adopt.a1 7))] ?_
        obtain ⟨d18, ed18, hS⟩ := bindO_T hS
        obtain ⟨bd18, Ad18_input, cd18_input, Ad18_heard_input, cd18_heard_input, Ad18_set__in_, cd18_set__in_, rfl, rfl, fd18_input, fd18_heard_input, fd18_set__in_⟩ := hs9_0 d18 ed18
        have nfd18_input := fd18_input.len
        have nfd18_heard_input := fd18_heard_input.len
        have nfd18_set__in_ := fd18_set__in_.len
        refine xSel [some 1, some 0, some 2] ?_
        have fd18_input := fd18_input.mono e17.b
        have fd18_heard_input := fd18_heard_input.mono e17.b
        have fd18_set__in_ := fd18_set__in_.mono e17.b
        obtain ⟨y19, hy19, hS⟩ := letJ_T hS
        refine xE (eC 1 (fun g' lr eb ln => c38 g' bd18 d18 Ad18_input cd18_input Ad18_heard_input cd18_heard_input Ad18_set__in_ cd18_set__in_ ((landK .i64 adopt.a1 7) : Int) (by rw [eb]; exact fd18_input) (by rw [eb]; exact fd18_heard_input) (by rw [eb]; exact fd18_set__in_) hy19)) ?_
        rintro _ g20 _ e21 ⟨_, rfl, A19_n_input, c19_n_input, A19_n_heard_input, c19_n_heard_input, A19_n_set__in_, c19_n_set__in_, rfl, rfl, f19_n_input, f19_n_heard_input, f19_n_set__in_⟩
        have nf19_n_input := f19_n_input.len
        have nf19_n_heard_input := f19_n_heard_input.len
        have nf19_n_set__in_ := f19_n_set__in_.len
        refine xRe ?_
        refine wpq_then ?_
        refine xSub [(0, vs Al l cl), (5, vp bd14 0), (7, vp bd18 0)] ?_
        refine xSq ?_
        refine xSq ?_
        refine xRg ?_
        refine xB 1 [] [(0, vs Al l cl), (5, vp bd14 0), (7, vp bd18 0), (9, vi 0)] ?_
        refine xRe ?_
        refine wpq_then ?_
        refine xJoinO hS (fun g own sl t22 => own = [] ∧ sl = []) ?_ ?_
        · rintro g23 _ _ t22 e24 ⟨rfl, rfl⟩ hS
          refine wpq_then ?_
          refine xSq ?_
          refine xRg ?_
          refine xB 1 [] [(4, vb true)] ?_
          refine xRe ?_
          refine wpq_then ?_
          have eS := (Option.some.inj hS).symm
          subst eS
          exact xRet [] [4] (e4.trans (e8.trans (e11.trans (e17.trans (e21.trans e24))))) ⟨by kernel_rfl, by kernel_rfl⟩ (fun _ _ h => h)
        · intro u22 hS hN22 hD22
          refine xBl 0 ?_
          have f15_n_input := f15_n_input.mono e21.b
          have f15_n_heard_input := f15_n_heard_input.mono e21.b
          have f15_n_set__in_ := f15_n_set__in_.mono e21.b
          refine xSel [some 0, some 1] ?_
          refine xSub [(0, vs Al l cl), (5, vp bd14 0), (7, vp bd18 0), (9, vi 0)] ?_
          refine xLo hS (fun g own sl s27 => ∃ (A27_1_input : Option Addr) (c27_1_input : Nat) (A27_1_heard_input : Option Addr) (c27_1_heard_input : Nat) (A27_1_set__in_ : Option Addr) (c27_1_set__in_ : Nat) (A27_2_input : Option Addr) (c27_2_input : Nat) (A27_2_heard_input : Option Addr) (c27_2_heard_input : Nat) (A27_2_set__in_ : Option Addr) (c27_2_set__in_ : Nat), own = [some ⟨bd18, 131, (cNode s27.2.1 A27_1_input c27_1_input A27_1_heard_input c27_1_heard_input A27_1_set__in_ c27_1_set__in_)⟩, some ⟨bd14, 131, (cNode s27.2.2 A27_2_input c27_2_input A27_2_heard_input c27_2_heard_input A27_2_set__in_ c27_2_set__in_)⟩] ∧ sl = [(0, vs Al l cl), (5, vp bd14 0), (7, vp bd18 0), (9, vi ((s27.1 : Nat) : Int))] ∧ Arr g.b tyU8 A27_1_input c27_1_input s27.2.1.input ∧ Arr g.b tyU8 A27_1_heard_input c27_1_heard_input s27.2.1.heard.input ∧ Arr g.b tyU8 A27_1_set__in_ c27_1_set__in_ s27.2.1.set_.in_ ∧ Arr g.b tyU8 A27_2_input c27_2_input s27.2.2.input ∧ Arr g.b tyU8 A27_2_heard_input c27_2_heard_input s27.2.2.heard.input ∧ Arr g.b tyU8 A27_2_set__in_ c27_2_set__in_ s27.2.2.set_.in_) ⟨A19_n_input, c19_n_input, A19_n_heard_input, c19_n_heard_input, A19_n_set__in_, c19_n_set__in_, A15_n_input, c15_n_input, A15_n_heard_input, c15_n_heard_input, A15_n_set__in_, c15_n_set__in_, by kernel_rfl, by kernel_rfl, f19_n_input, f19_n_heard_input, f19_n_set__in_, f15_n_input, f15_n_heard_input, f15_n_set__in_⟩ ?_
          rintro g28 _ _ s27 u27 e29 ⟨A27_1_input, c27_1_input, A27_1_heard_input, c27_1_heard_input, A27_1_set__in_, c27_1_set__in_, A27_2_input, c27_2_input, A27_2_heard_input, c27_2_heard_input, A27_2_set__in_, c27_2_set__in_, rfl, rfl, f27_1_input, f27_1_heard_input, f27_1_set__in_, f27_2_input, f27_2_heard_input, f27_2_set__in_⟩ hS Qr27 hN27 hD27
          have nf27_1_input := f27_1_input.len
          have nf27_1_heard_input := f27_1_heard_input.len
          have nf27_1_set__in_ := f27_1_set__in_.len
          have nf27_2_input := f27_2_input.len
          have nf27_2_heard_input := f27_2_heard_input.len
          have nf27_2_set__in_ := f27_2_set__in_.len
          unfold o9_L0 at hS
          refine xSq ?_
          refine xSq ?_
          refine xRg ?_
          refine xB 5 [] [(0, vs Al l cl), (5, vp bd14 0), (7, vp bd18 0), (9, vi ((s27.1 : Nat) : Int)), (45, vb (decide (((s27.1 : Nat) : Int) < (((l).length : Nat) : Int))))] ?_
          refine wpr_grp 8 [(0, vs Al l cl), (5, vp bd14 0), (7, vp bd18 0), (9, vi ((s27.1 : Nat) : Int)), (48, vb (decide (((s27.1 : Nat) : Int) < (((l).length : Nat) : Int)) && decide (((s27.1 : Nat) : Int) < 12)))] (fun hk4 => ?_) ?_
          · refine wpq_split 45 (b := decide (((s27.1 : Nat) : Int) < (((l).length : Nat) : Int))) (by kernel_rfl) (fun q30 => ?_) (fun q30 => ?_)
            · have q30p := of_decide_eq_true q30
              refine xB 3 [] [(0, vs Al l cl), (5, vp bd14 0), (7, vp bd18 0), (9, vi ((s27.1 : Nat) : Int)), (46, vi ((s27.1 : Nat) : Int)), (47, vb (decide (((s27.1 : Nat) : Int) < 12))), (48, vb (decide (((s27.1 : Nat) : Int) < 12)))] ?_
              refine wpq_re 48 (v := vb (decide (((s27.1 : Nat) : Int) < 12))) (Value.bool ((decide (((s27.1 : Nat) : Int) < (((l).length : Nat) : Int)) && decide (((s27.1 : Nat) : Int) < 12)))) (by kernel_rfl) (re_and1 q30) ?_
              exact wpq_sub _ (by kernel_rfl) hk4
            · have q30p := of_decide_eq_false q30
              refine xB 3 [] [(0, vs Al l cl), (5, vp bd14 0), (7, vp bd18 0), (9, vi ((s27.1 : Nat) : Int)), (46, undef), (47, undef), (48, vb false)] ?_
              refine wpq_re 48 (v := vb false) (Value.bool ((decide (((s27.1 : Nat) : Int) < (((l).length : Nat) : Int)) && decide (((s27.1 : Nat) : Int) < 12)))) (by kernel_rfl) (re_and0 q30) ?_
              exact wpq_sub _ (by kernel_rfl) hk4
          · refine xRe ?_
            refine wpq_then ?_
            refine xCd ((decide (((s27.1 : Nat) : Int) < (((l).length : Nat) : Int)) && decide (((s27.1 : Nat) : Int) < 12))) (fun h31 => ?_) (fun h31 => ?_)
            · have hS := cond_T h31 hS
              have h31l := (and_true_ h31).1
              have h31r := (and_true_ h31).2
              have h31lp := of_decide_eq_true h31l
              have h31rp := of_decide_eq_true h31r
              refine xSk ?_
              refine wpq_then ?_
              refine xSub [(0, vs Al l cl), (5, vp bd14 0), (7, vp bd18 0), (9, vi ((s27.1 : Nat) : Int))] ?_
              refine xSq ?_
              refine xBl 1 ?_
              refine xSq ?_
              refine xRg ?_
              have fl := fl.mono (e4.trans (e8.trans (e11.trans (e17.trans (e21.trans e29))))).b
              have i33 : s27.1 < (l).length := by omega
              obtain ⟨ad32, cs32, hA32, hr32, hc32⟩ := fl.at_ (get_getD (d := default) i33)
              obtain ⟨A32_one, c32_one, A32_two, c32_two, rfl, f32_one, f32_two⟩ := hr32
              have nf32_one := f32_one.len
              have nf32_two := f32_two.len
              refine xB 6 [] [(0, vs Al l cl), (5, vp bd14 0), (7, vp bd18 0), (9, vi ((s27.1 : Nat) : Int)), (54, Value.agg #[vp bd14 0, vp bd18 0]), (55, vi ((s27.1 : Nat) : Int)), (56, vs Al l cl), (57, vi ((s27.1 : Nat) : Int))] ?_
              refine xV (qIx s27.1 6 hA32 rfl i33) ?_
              refine xV (qLdP (Addr.add ad32 (s27.1 * 6)) 0 (hc32.mono g28.br)) ?_
              refine xSel [some 1, some 0] ?_
              obtain ⟨y34, hy34, hS⟩ := bindO_T hS
              refine xE (eC 2 (fun g' lr eb ln => c39 g' bd14 s27.2.2 A27_2_input c27_2_input A27_2_heard_input c27_2_heard_input A27_2_set__in_ c27_2_set__in_ bd18 s27.2.1 A27_1_input c27_1_input A27_1_heard_input c27_1_heard_input A27_1_set__in_ c27_1_set__in_ (((s27.1 : Nat) : Int) : Int) (List.getD l s27.1 default) A32_one c32_one A32_two c32_two (by rw [eb]; exact f27_2_input) (by rw [eb]; exact f27_2_heard_input) (by rw [eb]; exact f27_2_set__in_) (by rw [eb]; exact f27_1_input) (by rw [eb]; exact f27_1_heard_input) (by rw [eb]; exact f27_1_set__in_) (by rw [eb]; exact f32_one) (by rw [eb]; exact f32_two) hy34)) ?_
              rintro _ g35 _ e36 ⟨_, rfl, A34_la_input, c34_la_input, A34_la_heard_input, c34_la_heard_input, A34_la_set__in_, c34_la_set__in_, A34_lb_input, c34_lb_input, A34_lb_heard_input, c34_lb_heard_input, A34_lb_set__in_, c34_lb_set__in_, A34_0_a0_in_, c34_0_a0_in_, A34_0_a1_in_, c34_0_a1_in_, rfl, rfl, f34_la_input, f34_la_heard_input, f34_la_set__in_, f34_lb_input, f34_lb_heard_input, f34_lb_set__in_, f34_0_a0_in_, f34_0_a1_in_⟩
              have nf34_la_input := f34_la_input.len
              have nf34_la_heard_input := f34_la_heard_input.len
              have nf34_la_set__in_ := f34_la_set__in_.len
              have nf34_lb_input := f34_lb_input.len
              have nf34_lb_heard_input := f34_lb_heard_input.len
              have nf34_lb_set__in_ := f34_lb_set__in_.len
              have nf34_0_a0_in_ := f34_0_a0_in_.len
              have nf34_0_a1_in_ := f34_0_a1_in_.len
              refine xB 6 [] [(0, vs Al l cl), (5, vp bd14 0), (7, vp bd18 0), (9, vi ((s27.1 : Nat) : Int)), (61, Value.agg #[vi y34.2.2.1.a0.steps, vi y34.2.2.1.a0.cycle, vb y34.2.2.1.a0.fresh, vs A34_0_a0_in_ y34.2.2.1.a0.in_ c34_0_a0_in_, vi y34.2.2.1.a1.steps, vi y34.2.2.1.a1.cycle, vb y34.2.2.1.a1.fresh, vs A34_0_a1_in_ y34.2.2.1.a1.in_ c34_0_a1_in_]), (62, Value.agg #[vb y34.2.2.2.1.a0, vb y34.2.2.2.1.a1]), (63, Value.agg #[vy y34.2.2.2.2.1.a0.lateral, vy y34.2.2.2.2.1.a0.vertical, vy y34.2.2.2.2.1.a0.phase, vi y34.2.2.2.2.1.a0.bank, vi y34.2.2.2.2.1.a0.speed, vi y34.2.2.2.2.1.a0.alt, vi y34.2.2.2.2.1.a0.vs, vy y34.2.2.2.2.1.a1.lateral, vy y34.2.2.2.2.1.a1.vertical, vy y34.2.2.2.2.1.a1.phase, vi y34.2.2.2.2.1.a1.bank, vi y34.2.2.2.2.1.a1.speed, vi y34.2.2.2.2.1.a1.alt, vi y34.2.2.2.2.1.a1.vs]), (64, Value.agg #[vy y34.2.2.2.2.2.1.a0, vy y34.2.2.2.2.2.1.a1]), (65, vb y34.2.2.2.2.2.2)] ?_
              refine xE eB ?_
              rintro _ _ _ - ⟨b37, rfl, rfl, rfl⟩
              refine xE eB ?_
              rintro _ _ _ - ⟨b38, rfl, rfl, rfl⟩
              refine xE eB ?_
              rintro _ _ _ - ⟨b39, rfl, rfl, rfl⟩
              refine xE eB ?_
              rintro _ _ _ - ⟨b40, rfl, rfl, rfl⟩
              refine xBo 5 [(19, 3), (20, 2), (21, 1), (22, 0)] [some ⟨b40, 84, [vy y34.2.2.2.2.2.1.a0, vy y34.2.2.2.2.2.1.a1]⟩, some ⟨b39, 83, [vy y34.2.2.2.2.1.a0.lateral, vy y34.2.2.2.2.1.a0.vertical, vy y34.2.2.2.2.1.a0.phase, vi y34.2.2.2.2.1.a0.bank, vi y34.2.2.2.2.1.a0.speed, vi y34.2.2.2.2.1.a0.alt, vi y34.2.2.2.2.1.a0.vs, vy y34.2.2.2.2.1.a1.lateral, vy y34.2.2.2.2.1.a1.vertical, vy y34.2.2.2.2.1.a1.phase, vi y34.2.2.2.2.1.a1.bank, vi y34.2.2.2.2.1.a1.speed, vi y34.2.2.2.2.1.a1.alt, vi y34.2.2.2.2.1.a1.vs]⟩, some ⟨b38, 82, [vb y34.2.2.2.1.a0, vb y34.2.2.2.1.a1]⟩, some ⟨b37, 81, [vi y34.2.2.1.a0.steps, vi y34.2.2.1.a0.cycle, vb y34.2.2.1.a0.fresh, vs A34_0_a0_in_ y34.2.2.1.a0.in_ c34_0_a0_in_, vi y34.2.2.1.a1.steps, vi y34.2.2.1.a1.cycle, vb y34.2.2.1.a1.fresh, vs A34_0_a1_in_ y34.2.2.1.a1.in_ c34_0_a1_in_]⟩, some ⟨bd14, 131, (cNode y34.1 A34_la_input c34_la_input A34_la_heard_input c34_la_heard_input A34_la_set__in_ c34_la_set__in_)⟩, some ⟨bd18, 131, (cNode y34.2.1 A34_lb_input c34_lb_input A34_lb_heard_input c34_lb_heard_input A34_lb_set__in_ c34_lb_set__in_)⟩] [(0, vs Al l cl), (5, vp bd14 0), (7, vp bd18 0), (9, vi ((s27.1 : Nat) : Int)), (10, vp b37 0), (11, vp b38 0), (12, vp b39 0), (13, vp b40 0), (14, vb y34.2.2.2.2.2.2)] ?_
              refine xRe ?_
              refine wpq_then ?_
              refine xSq ?_
              refine xSq ?_
              refine xRg ?_
              refine xB 2 [] [(0, vs Al l cl), (5, vp bd14 0), (7, vp bd18 0), (9, vi ((s27.1 : Nat) : Int)), (10, vp b37 0), (11, vp b38 0), (12, vp b39 0), (13, vp b40 0), (67, vb (!y34.2.2.2.2.2.2))] ?_
              refine xRe ?_
              refine wpq_then ?_
              refine xCd ((!y34.2.2.2.2.2.2)) (fun h41 => ?_) (fun h41 => ?_)
              · have hS := cond_T h41 hS
                have h41n := not_eq_true_ h41
                refine xSq ?_
                refine xRg ?_
                refine xB 1 [] [(4, vb false)] ?_
                refine xRe ?_
                refine wpq_then ?_
                have eS := (Option.some.inj hS).symm
                have eS := (hD27 _ eS).symm
                have eS := (hD22 _ eS).symm
                subst eS
                exact xRet [] [4] (e4.trans (e8.trans (e11.trans (e17.trans (e21.trans (e29.trans e36)))))) ⟨by kernel_rfl, by kernel_rfl⟩ (fun _ _ h => h)
              · have hS := cond_F h41 hS
                have h41n := not_eq_false_ h41
                refine xSk ?_
                refine wpq_then ?_
                refine xSub [(0, vs Al l cl), (5, vp bd14 0), (7, vp bd18 0), (9, vi ((s27.1 : Nat) : Int)), (10, vp b37 0), (11, vp b38 0), (12, vp b39 0), (13, vp b40 0)] ?_
                refine xSq ?_
                refine xSq ?_
                refine xRg ?_
                refine xB 4 [(1, 0)] [(0, vs Al l cl), (5, vp bd14 0), (7, vp bd18 0), (9, vi ((s27.1 : Nat) : Int)), (10, vp b37 0), (11, vp b38 0), (12, vp b39 0), (13, vp b40 0), (71, vb (y34.2.2.2.2.2.1.a0 == 4))] ?_
                refine xGJl hS 8 (fun g own sl t42 => own = [some ⟨b40, 84, [vy y34.2.2.2.2.2.1.a0, vy y34.2.2.2.2.2.1.a1]⟩, some ⟨b39, 83, [vy y34.2.2.2.2.1.a0.lateral, vy y34.2.2.2.2.1.a0.vertical, vy y34.2.2.2.2.1.a0.phase, vi y34.2.2.2.2.1.a0.bank, vi y34.2.2.2.2.1.a0.speed, vi y34.2.2.2.2.1.a0.alt, vi y34.2.2.2.2.1.a0.vs, vy y34.2.2.2.2.1.a1.lateral, vy y34.2.2.2.2.1.a1.vertical, vy y34.2.2.2.2.1.a1.phase, vi y34.2.2.2.2.1.a1.bank, vi y34.2.2.2.2.1.a1.speed, vi y34.2.2.2.2.1.a1.alt, vi y34.2.2.2.2.1.a1.vs]⟩, some ⟨b38, 82, [vb y34.2.2.2.1.a0, vb y34.2.2.2.1.a1]⟩, some ⟨b37, 81, [vi y34.2.2.1.a0.steps, vi y34.2.2.1.a0.cycle, vb y34.2.2.1.a0.fresh, vs A34_0_a0_in_ y34.2.2.1.a0.in_ c34_0_a0_in_, vi y34.2.2.1.a1.steps, vi y34.2.2.1.a1.cycle, vb y34.2.2.1.a1.fresh, vs A34_0_a1_in_ y34.2.2.1.a1.in_ c34_0_a1_in_]⟩, some ⟨bd14, 131, (cNode y34.1 A34_la_input c34_la_input A34_la_heard_input c34_la_heard_input A34_la_set__in_ c34_la_set__in_)⟩, some ⟨bd18, 131, (cNode y34.2.1 A34_lb_input c34_lb_input A34_lb_heard_input c34_lb_heard_input A34_lb_set__in_ c34_lb_set__in_)⟩] ∧ sl = [(0, vs Al l cl), (5, vp bd14 0), (7, vp bd18 0), (9, vi ((s27.1 : Nat) : Int)), (10, vp b37 0), (11, vp b38 0), (12, vp b39 0), (75, vb t42)]) ?_ ?_
                · rintro g43 _ _ t42 e44 ⟨rfl, rfl⟩ hS
                  refine xRe ?_
                  refine wpq_then ?_
                  refine xJoinO hS (fun g own sl t45 => own = [some ⟨bd14, 131, (cNode y34.1 A34_la_input c34_la_input A34_la_heard_input c34_la_heard_input A34_la_set__in_ c34_la_set__in_)⟩, some ⟨bd18, 131, (cNode y34.2.1 A34_lb_input c34_lb_input A34_lb_heard_input c34_lb_heard_input A34_lb_set__in_ c34_lb_set__in_)⟩] ∧ sl = [(0, vs Al l cl), (5, vp bd14 0), (7, vp bd18 0), (9, vi ((s27.1 : Nat) : Int))]) ?_ ?_
                  · rintro g46 _ _ t45 e47 ⟨rfl, rfl⟩ hS
                    refine wpq_then ?_
                    refine xSq ?_
                    refine xRg ?_
                    refine xB 1 [] [(0, vs Al l cl), (5, vp bd14 0), (7, vp bd18 0), (9, vi ((s27.1 : Nat) : Int)), (108, vp bd14 0)] ?_
                    have f34_la_input := f34_la_input.mono (e44.trans e47).b
                    have f34_la_heard_input := f34_la_heard_input.mono (e44.trans e47).b
                    have f34_la_set__in_ := f34_la_set__in_.mono (e44.trans e47).b
                    obtain ⟨y48, hy48, hS⟩ := letJ_T hS
                    refine xE (eC 0 (fun g' lr eb ln => c41 g' ⟨bd14, 0, none⟩ y34.1 A34_la_input c34_la_input A34_la_heard_input c34_la_heard_input A34_la_set__in_ c34_la_set__in_ (cells_lent' 0 bd14 0 (cNode y34.1 A34_la_input c34_la_input A34_la_heard_input c34_la_heard_input A34_la_set__in_ c34_la_set__in_) ln) ((f34_la_input.mono g46.br).mono lr) ((f34_la_heard_input.mono g46.br).mono lr) ((f34_la_set__in_.mono g46.br).mono lr) hy48)) ?_
                    rintro _ g49 _ e50 ⟨_, rfl, rfl, rfl⟩
                    refine xB 2 [] [(0, vs Al l cl), (5, vp bd14 0), (7, vp bd18 0), (9, vi ((s27.1 : Nat) : Int)), (111, vb (y48 == 3))] ?_
                    refine xGJl hS 8 (fun g own sl t51 => own = [some ⟨bd14, 131, (cNode y34.1 A34_la_input c34_la_input A34_la_heard_input c34_la_heard_input A34_la_set__in_ c34_la_set__in_)⟩, some ⟨bd18, 131, (cNode y34.2.1 A34_lb_input c34_lb_input A34_lb_heard_input c34_lb_heard_input A34_lb_set__in_ c34_lb_set__in_)⟩] ∧ sl = [(0, vs Al l cl), (5, vp bd14 0), (7, vp bd18 0), (9, vi ((s27.1 : Nat) : Int)), (115, vb t51)]) ?_ ?_
                    · rintro g52 _ _ t51 e53 ⟨rfl, rfl⟩ hS
                      refine xRe ?_
                      refine wpq_then ?_
                      refine xCd (t51) (fun h54 => ?_) (fun h54 => ?_)
                      · have hS := cond_T h54 hS
                        refine xSq ?_
                        refine xRg ?_
                        refine xB 1 [] [(4, vb false)] ?_
                        refine xRe ?_
                        refine wpq_then ?_
                        have eS := (Option.some.inj hS).symm
                        have eS := (hD27 _ eS).symm
                        have eS := (hD22 _ eS).symm
                        subst eS
                        exact xRet [] [4] (e4.trans (e8.trans (e11.trans (e17.trans (e21.trans (e29.trans (e36.trans (e44.trans (e47.trans (e50.trans e53)))))))))) ⟨by kernel_rfl, by kernel_rfl⟩ (fun _ _ h => h)
                      · have hS := cond_F h54 hS
                        refine xSk ?_
                        refine wpq_blockN ?_
                        refine wpq_then ?_
                        refine xSub [(0, vs Al l cl), (5, vp bd14 0), (7, vp bd18 0), (9, vi ((s27.1 : Nat) : Int))] ?_
                        refine xRg ?_
                        obtain ⟨q55, hS⟩ := grd_T hS
                        have q55p := of_decide_eq_true q55
                        refine xB 1 [] [(0, vs Al l cl), (5, vp bd14 0), (7, vp bd18 0), (9, vi ((s27.1 : Nat) : Int)), (49, vi ((s27.1 : Nat) : Int))] ?_
                        refine xV (qAdd .i64 (((s27.1 : Nat) : Int)) (1) (wr64 (by omega))) ?_
                        refine xB 1 [] [(0, vs Al l cl), (5, vp bd14 0), (7, vp bd18 0), (9, vi (((s27.1 : Nat) : Int) + 1))] ?_
                        refine xRe ?_
                        refine wpq_thenN ?_
                        have f34_lb_input := f34_lb_input.mono (e44.trans (e47.trans (e50.trans e53))).b
                        have f34_lb_heard_input := f34_lb_heard_input.mono (e44.trans (e47.trans (e50.trans e53))).b
                        have f34_lb_set__in_ := f34_lb_set__in_.mono (e44.trans (e47.trans (e50.trans e53))).b
                        have f34_la_input := f34_la_input.mono (e50.trans e53).b
                        have f34_la_heard_input := f34_la_heard_input.mono (e50.trans e53).b
                        have f34_la_set__in_ := f34_la_set__in_.mono (e50.trans e53).b
                        refine xSel [some 1, some 0] ?_
                        refine xSub [(0, vs Al l cl), (5, vp bd14 0), (7, vp bd18 0), (9, vi (((s27.1 : Nat) : Int) + 1))] ?_
                        have eS := (Option.some.inj hS).symm
                        exact hN27 _ eS _ _ _ (e36.trans (e44.trans (e47.trans (e50.trans e53)))) ⟨A34_lb_input, c34_lb_input, A34_lb_heard_input, c34_lb_heard_input, A34_lb_set__in_, c34_lb_set__in_, A34_la_input, c34_la_input, A34_la_heard_input, c34_la_heard_input, A34_la_set__in_, c34_la_set__in_, by kernel_rfl, by kernel_rfl, f34_lb_input, f34_lb_heard_input, f34_lb_set__in_, f34_la_input, f34_la_heard_input, f34_la_set__in_⟩
                    · intro u51 hS hN51
                      refine wpq_split 111 (b := (y48 == 3)) (by kernel_rfl) (fun q56 => ?_) (fun q56 => ?_)
                      · have hS := cond_T q56 hS
                        have q56p : y48 = 3 := eq_of_beq q56
                        refine xB 1 [] [(0, vs Al l cl), (5, vp bd14 0), (7, vp bd18 0), (9, vi ((s27.1 : Nat) : Int)), (111, vb true), (112, vp bd18 0)] ?_
                        have f34_lb_input := f34_lb_input.mono (e44.trans (e47.trans e50)).b
                        have f34_lb_heard_input := f34_lb_heard_input.mono (e44.trans (e47.trans e50)).b
                        have f34_lb_set__in_ := f34_lb_set__in_.mono (e44.trans (e47.trans e50)).b
                        obtain ⟨y57, hy57, hS⟩ := letJ_T hS
                        refine xE (eC 0 (fun g' lr eb ln => c41 g' ⟨bd18, 0, none⟩ y34.2.1 A34_lb_input c34_lb_input A34_lb_heard_input c34_lb_heard_input A34_lb_set__in_ c34_lb_set__in_ (cells_lent' 1 bd18 0 (cNode y34.2.1 A34_lb_input c34_lb_input A34_lb_heard_input c34_lb_heard_input A34_lb_set__in_ c34_lb_set__in_) ln) ((f34_lb_input.mono g49.br).mono lr) ((f34_lb_heard_input.mono g49.br).mono lr) ((f34_lb_set__in_.mono g49.br).mono lr) hy57)) ?_
                        rintro _ g58 _ e59 ⟨_, rfl, rfl, rfl⟩
                        refine xB 2 [] [(0, vs Al l cl), (5, vp bd14 0), (7, vp bd18 0), (9, vi ((s27.1 : Nat) : Int)), (112, vp bd18 0), (113, vy y57), (114, vb (y57 == 3)), (115, vb (y57 == 3))] ?_
                        refine xSub [(0, vs Al l cl), (5, vp bd14 0), (7, vp bd18 0), (9, vi ((s27.1 : Nat) : Int)), (115, vb (y57 == 3))] ?_
                        exact hN51 _ hS.symm _ _ _ e59 ⟨by kernel_rfl, by kernel_rfl⟩
                      · have hS := cond_F q56 hS
                        have q56p : ¬ (y48 = 3) := ne_of_beq_false_ q56
                        refine xB 4 [] [(0, vs Al l cl), (5, vp bd14 0), (7, vp bd18 0), (9, vi ((s27.1 : Nat) : Int)), (112, undef), (113, undef), (114, undef), (115, vb false)] ?_
                        refine xSub [(0, vs Al l cl), (5, vp bd14 0), (7, vp bd18 0), (9, vi ((s27.1 : Nat) : Int)), (115, vb false)] ?_
                        exact hN51 _ hS.symm _ _ _ (Gh.le.refl _) ⟨by kernel_rfl, by kernel_rfl⟩
                  · intro u45 hS hN45 hD45
                    refine xCd (t42) (fun h60 => ?_) (fun h60 => ?_)
                    · have hS := cond_T h60 hS
                      refine xSq ?_
                      refine xDr 0 [1, 5, 10, 12, 24, 27] [] [some ⟨b40, 84, [vy y34.2.2.2.2.2.1.a0, vy y34.2.2.2.2.2.1.a1]⟩, some ⟨b39, 83, [vy y34.2.2.2.2.1.a0.lateral, vy y34.2.2.2.2.1.a0.vertical, vy y34.2.2.2.2.1.a0.phase, vi y34.2.2.2.2.1.a0.bank, vi y34.2.2.2.2.1.a0.speed, vi y34.2.2.2.2.1.a0.alt, vi y34.2.2.2.2.1.a0.vs, vy y34.2.2.2.2.1.a1.lateral, vy y34.2.2.2.2.1.a1.vertical, vy y34.2.2.2.2.1.a1.phase, vi y34.2.2.2.2.1.a1.bank, vi y34.2.2.2.2.1.a1.speed, vi y34.2.2.2.2.1.a1.alt, vi y34.2.2.2.2.1.a1.vs]⟩, some ⟨b38, 82, [vb y34.2.2.2.1.a0, vb y34.2.2.2.1.a1]⟩, some ⟨b37, 81, [vi y34.2.2.1.a0.steps, vi y34.2.2.1.a0.cycle, vb y34.2.2.1.a0.fresh, vs A34_0_a0_in_ y34.2.2.1.a0.in_ c34_0_a0_in_, vi y34.2.2.1.a1.steps, vi y34.2.2.1.a1.cycle, vb y34.2.2.1.a1.fresh, vs A34_0_a1_in_ y34.2.2.1.a1.in_ c34_0_a1_in_]⟩] 32 (fun RG => ?_) (fun _ _ _ _ _ h => h)
                      refine xT 28 [0, 1, 2, 3] [(1, 2)] [some 0, some 1, some 2, some 3] [(0, vs Al l cl), (5, vp bd14 0), (7, vp bd18 0), (9, vi ((s27.1 : Nat) : Int)), (10, vp b37 0), (11, vp b38 0), (12, vp b39 0), (79, vb (!y34.2.2.2.1.a0))] RG (Psi.le.refl _) ?_
                      refine xGJlA hS 24 [true, true, true, true, true, true, true, true, false, false, false, false, false, false, false, false, false, false, false, false, false, false, false, false, false, false, false, false, false, false, false, false] (fun g own sl t61 => own = [some ⟨b40, 84, [vy y34.2.2.2.2.2.1.a0, vy y34.2.2.2.2.2.1.a1]⟩, some ⟨b39, 83, [vy y34.2.2.2.2.1.a0.lateral, vy y34.2.2.2.2.1.a0.vertical, vy y34.2.2.2.2.1.a0.phase, vi y34.2.2.2.2.1.a0.bank, vi y34.2.2.2.2.1.a0.speed, vi y34.2.2.2.2.1.a0.alt, vi y34.2.2.2.2.1.a0.vs, vy y34.2.2.2.2.1.a1.lateral, vy y34.2.2.2.2.1.a1.vertical, vy y34.2.2.2.2.1.a1.phase, vi y34.2.2.2.2.1.a1.bank, vi y34.2.2.2.2.1.a1.speed, vi y34.2.2.2.2.1.a1.alt, vi y34.2.2.2.2.1.a1.vs]⟩, some ⟨b38, 82, [vb y34.2.2.2.1.a0, vb y34.2.2.2.1.a1]⟩, some ⟨b37, 81, [vi y34.2.2.1.a0.steps, vi y34.2.2.1.a0.cycle, vb y34.2.2.1.a0.fresh, vs A34_0_a0_in_ y34.2.2.1.a0.in_ c34_0_a0_in_, vi y34.2.2.1.a1.steps, vi y34.2.2.1.a1.cycle, vb y34.2.2.1.a1.fresh, vs A34_0_a1_in_ y34.2.2.1.a1.in_ c34_0_a1_in_]⟩, some ⟨bd14, 131, (cNode y34.1 A34_la_input c34_la_input A34_la_heard_input c34_la_heard_input A34_la_set__in_ c34_la_set__in_)⟩, some ⟨bd18, 131, (cNode y34.2.1 A34_lb_input c34_lb_input A34_lb_heard_input c34_lb_heard_input A34_lb_set__in_ c34_lb_set__in_)⟩] ∧ sl = [(0, vs Al l cl), (5, vp bd14 0), (7, vp bd18 0), (9, vi ((s27.1 : Nat) : Int)), (10, vp b37 0), (12, vp b39 0), (83, vb t61)]) ?_ ?_
                      · rintro g62 _ _ t61 e63 ⟨rfl, rfl⟩ hS
                        refine xT 23 [8] [] [some 0, some 1, some 2, some 3] [(0, vs Al l cl), (5, vp bd14 0), (7, vp bd18 0), (9, vi ((s27.1 : Nat) : Int)), (10, vp b37 0), (12, vp b39 0), (84, vb t61)] RG e63.r ?_
                        refine xGJlA hS 17 [true, true, true, true, true, true, true, true, true, true, true, true, true, true, true, false, false, false, false, false, false, false, false, false, false, false, false, false, false, false, false, false] (fun g own sl t64 => own = [some ⟨b40, 84, [vy y34.2.2.2.2.2.1.a0, vy y34.2.2.2.2.2.1.a1]⟩, some ⟨b39, 83, [vy y34.2.2.2.2.1.a0.lateral, vy y34.2.2.2.2.1.a0.vertical, vy y34.2.2.2.2.1.a0.phase, vi y34.2.2.2.2.1.a0.bank, vi y34.2.2.2.2.1.a0.speed, vi y34.2.2.2.2.1.a0.alt, vi y34.2.2.2.2.1.a0.vs, vy y34.2.2.2.2.1.a1.lateral, vy y34.2.2.2.2.1.a1.vertical, vy y34.2.2.2.2.1.a1.phase, vi y34.2.2.2.2.1.a1.bank, vi y34.2.2.2.2.1.a1.speed, vi y34.2.2.2.2.1.a1.alt, vi y34.2.2.2.2.1.a1.vs]⟩, some ⟨b38, 82, [vb y34.2.2.2.1.a0, vb y34.2.2.2.1.a1]⟩, some ⟨b37, 81, [vi y34.2.2.1.a0.steps, vi y34.2.2.1.a0.cycle, vb y34.2.2.1.a0.fresh, vs A34_0_a0_in_ y34.2.2.1.a0.in_ c34_0_a0_in_, vi y34.2.2.1.a1.steps, vi y34.2.2.1.a1.cycle, vb y34.2.2.1.a1.fresh, vs A34_0_a1_in_ y34.2.2.1.a1.in_ c34_0_a1_in_]⟩, some ⟨bd14, 131, (cNode y34.1 A34_la_input c34_la_input A34_la_heard_input c34_la_heard_input A34_la_set__in_ c34_la_set__in_)⟩, some ⟨bd18, 131, (cNode y34.2.1 A34_lb_input c34_lb_input A34_lb_heard_input c34_lb_heard_input A34_lb_set__in_ c34_lb_set__in_)⟩] ∧ sl = [(0, vs Al l cl), (5, vp bd14 0), (7, vp bd18 0), (9, vi ((s27.1 : Nat) : Int)), (10, vp b37 0), (90, vb t64)]) ?_ ?_
                        · rintro g65 _ _ t64 e66 ⟨rfl, rfl⟩ hS
                          refine xT 16 [15] [] [some 0, some 1, some 2, some 3] [(0, vs Al l cl), (5, vp bd14 0), (7, vp bd18 0), (9, vi ((s27.1 : Nat) : Int)), (10, vp b37 0), (91, vb t64)] RG (e63.trans e66).r ?_
                          refine xGJlA hS 10 [true, true, true, true, true, true, true, true, true, true, true, true, true, true, true, true, true, true, true, true, true, true, false, false, false, false, false, false, false, false, false, false] (fun g own sl t67 => own = [some ⟨b40, 84, [vy y34.2.2.2.2.2.1.a0, vy y34.2.2.2.2.2.1.a1]⟩, some ⟨b39, 83, [vy y34.2.2.2.2.1.a0.lateral, vy y34.2.2.2.2.1.a0.vertical, vy y34.2.2.2.2.1.a0.phase, vi y34.2.2.2.2.1.a0.bank, vi y34.2.2.2.2.1.a0.speed, vi y34.2.2.2.2.1.a0.alt, vi y34.2.2.2.2.1.a0.vs, vy y34.2.2.2.2.1.a1.lateral, vy y34.2.2.2.2.1.a1.vertical, vy y34.2.2.2.2.1.a1.phase, vi y34.2.2.2.2.1.a1.bank, vi y34.2.2.2.2.1.a1.speed, vi y34.2.2.2.2.1.a1.alt, vi y34.2.2.2.2.1.a1.vs]⟩, some ⟨b38, 82, [vb y34.2.2.2.1.a0, vb y34.2.2.2.1.a1]⟩, some ⟨b37, 81, [vi y34.2.2.1.a0.steps, vi y34.2.2.1.a0.cycle, vb y34.2.2.1.a0.fresh, vs A34_0_a0_in_ y34.2.2.1.a0.in_ c34_0_a0_in_, vi y34.2.2.1.a1.steps, vi y34.2.2.1.a1.cycle, vb y34.2.2.1.a1.fresh, vs A34_0_a1_in_ y34.2.2.1.a1.in_ c34_0_a1_in_]⟩, some ⟨bd14, 131, (cNode y34.1 A34_la_input c34_la_input A34_la_heard_input c34_la_heard_input A34_la_set__in_ c34_la_set__in_)⟩, some ⟨bd18, 131, (cNode y34.2.1 A34_lb_input c34_lb_input A34_lb_heard_input c34_lb_heard_input A34_lb_set__in_ c34_lb_set__in_)⟩] ∧ sl = [(0, vs Al l cl), (5, vp bd14 0), (7, vp bd18 0), (9, vi ((s27.1 : Nat) : Int)), (10, vp b37 0), (97, vb t67)]) ?_ ?_
                          · rintro g68 _ _ t67 e69 ⟨rfl, rfl⟩ hS
                            refine xT 9 [22] [] [some 0, some 1, some 2, some 3] [(0, vs Al l cl), (5, vp bd14 0), (7, vp bd18 0), (9, vi ((s27.1 : Nat) : Int)), (10, vp b37 0), (98, vb t67)] RG (e63.trans (e66.trans e69)).r ?_
                            refine xGJlA hS 0 [true, true, true, true, true, true, true, true, true, true, true, true, true, true, true, true, true, true, true, true, true, true, true, true, true, true, true, true, true, true, true, true] (fun g own sl t70 => own = [some ⟨b40, 84, [vy y34.2.2.2.2.2.1.a0, vy y34.2.2.2.2.2.1.a1]⟩, some ⟨b39, 83, [vy y34.2.2.2.2.1.a0.lateral, vy y34.2.2.2.2.1.a0.vertical, vy y34.2.2.2.2.1.a0.phase, vi y34.2.2.2.2.1.a0.bank, vi y34.2.2.2.2.1.a0.speed, vi y34.2.2.2.2.1.a0.alt, vi y34.2.2.2.2.1.a0.vs, vy y34.2.2.2.2.1.a1.lateral, vy y34.2.2.2.2.1.a1.vertical, vy y34.2.2.2.2.1.a1.phase, vi y34.2.2.2.2.1.a1.bank, vi y34.2.2.2.2.1.a1.speed, vi y34.2.2.2.2.1.a1.alt, vi y34.2.2.2.2.1.a1.vs]⟩, some ⟨b38, 82, [vb y34.2.2.2.1.a0, vb y34.2.2.2.1.a1]⟩, some ⟨b37, 81, [vi y34.2.2.1.a0.steps, vi y34.2.2.1.a0.cycle, vb y34.2.2.1.a0.fresh, vs A34_0_a0_in_ y34.2.2.1.a0.in_ c34_0_a0_in_, vi y34.2.2.1.a1.steps, vi y34.2.2.1.a1.cycle, vb y34.2.2.1.a1.fresh, vs A34_0_a1_in_ y34.2.2.1.a1.in_ c34_0_a1_in_]⟩, some ⟨bd14, 131, (cNode y34.1 A34_la_input c34_la_input A34_la_heard_input c34_la_heard_input A34_la_set__in_ c34_la_set__in_)⟩, some ⟨bd18, 131, (cNode y34.2.1 A34_lb_input c34_lb_input A34_lb_heard_input c34_lb_heard_input A34_lb_set__in_ c34_lb_set__in_)⟩] ∧ sl = [(0, vs Al l cl), (5, vp bd14 0), (7, vp bd18 0), (9, vi ((s27.1 : Nat) : Int)), (107, vb t70)]) ?_ ?_
                            · rintro g71 _ _ t70 e72 ⟨rfl, rfl⟩ hS
                              refine xAe (lds := [1, 5, 10, 12, 24, 27]) ?_
                              refine wpq_then ?_
                              refine xCd (t70) (fun h73 => ?_) (fun h73 => ?_)
                              · have hS := cond_T h73 hS
                                refine xSq ?_
                                refine xRg ?_
                                refine xB 1 [] [(4, vb false)] ?_
                                refine xRe ?_
                                refine wpq_then ?_
                                have eS := (Option.some.inj hS).symm
                                have eS := (hD45 _ eS).symm
                                have eS := (hD27 _ eS).symm
                                have eS := (hD22 _ eS).symm
                                subst eS
                                exact xRet [] [4] (e4.trans (e8.trans (e11.trans (e17.trans (e21.trans (e29.trans (e36.trans (e44.trans (e63.trans (e66.trans (e69.trans e72))))))))))) ⟨by kernel_rfl, by kernel_rfl⟩ (fun _ _ h => h)
                              · have hS := cond_F h73 hS
                                refine xSk ?_
                                refine xSel [some 4, some 5] ?_
                                refine xSub [(0, vs Al l cl), (5, vp bd14 0), (7, vp bd18 0), (9, vi ((s27.1 : Nat) : Int))] ?_
                                have eS := (Option.some.inj hS).symm
                                exact hN45 _ eS _ _ _ (e63.trans (e66.trans (e69.trans e72))) ⟨by kernel_rfl, by kernel_rfl⟩
                            · intro u70 hS hN70
                              refine wpq_split 98 (b := t67) (by kernel_rfl) (fun q74 => ?_) (fun q74 => ?_)
                              · have hS := cond_T q74 hS
                                refine xT 5 [23, 24, 26, 27] [] [some 0, some 1, some 2, some 3] [(0, vs Al l cl), (5, vp bd14 0), (7, vp bd18 0), (9, vi ((s27.1 : Nat) : Int)), (98, vb true), (99, undef), (100, undef), (102, undef), (103, undef)] RG (e63.trans (e66.trans e69)).r ?_
                                refine xO1 (lds := [1, 5, 10, 12, 24, 27]) 25 ?_
                                refine xIb (lds := [1, 5, 10, 12, 24, 27]) [] ?_
                                refine xO1 (lds := [1, 5, 10, 12, 24, 27]) 28 ?_
                                refine xIb (lds := [1, 5, 10, 12, 24, 27]) [] ?_
                                refine xO1 (lds := [1, 5, 10, 12, 24, 27]) 29 ?_
                                refine xIb (lds := [1, 5, 10, 12, 24, 27]) [] ?_
                                refine xT 0 [30, 31] [] [some 0, some 1, some 2, some 3] [(0, vs Al l cl), (5, vp bd14 0), (7, vp bd18 0), (9, vi ((s27.1 : Nat) : Int)), (99, undef), (100, undef), (101, undef), (102, undef), (103, undef), (104, undef), (105, undef), (106, undef), (107, vb true)] RG (e63.trans (e66.trans e69)).r ?_
                                refine xSub [(0, vs Al l cl), (5, vp bd14 0), (7, vp bd18 0), (9, vi ((s27.1 : Nat) : Int)), (107, vb true)] ?_
                                exact hN70 _ hS.symm _ _ _ (Gh.le.refl _) ⟨by kernel_rfl, by kernel_rfl⟩
                              · have hS := cond_F q74 hS
                                refine xT 5 [23, 24, 26, 27] [(24, 3), (27, 3)] [some 0, some 1, some 2, some 3] [(0, vs Al l cl), (5, vp bd14 0), (7, vp bd18 0), (9, vi ((s27.1 : Nat) : Int)), (98, vb false), (99, vp b37 0), (100, Value.agg #[vi y34.2.2.1.a0.steps, vi y34.2.2.1.a0.cycle, vb y34.2.2.1.a0.fresh, vs A34_0_a0_in_ y34.2.2.1.a0.in_ c34_0_a0_in_]), (102, vp b37 4), (103, Value.agg #[vi y34.2.2.1.a1.steps, vi y34.2.2.1.a1.cycle, vb y34.2.2.1.a1.fresh, vs A34_0_a1_in_ y34.2.2.1.a1.in_ c34_0_a1_in_])] RG (e63.trans (e66.trans e69)).r ?_
                                have f34_0_a0_in_ := f34_0_a0_in_.mono (e44.trans (e63.trans (e66.trans e69))).b
                                obtain ⟨y75, hy75, hS⟩ := letJ_T hS
                                refine xO1 (lds := [1, 5, 10, 12, 24, 27]) 25 ?_
                                refine xIe (lds := [1, 5, 10, 12, 24, 27]) (e63.trans (e66.trans e69)).r (eC 0 (fun g' lr eb ln => c33 g' y34.2.2.1.a0 A34_0_a0_in_ c34_0_a0_in_ (by rw [eb]; exact f34_0_a0_in_) hy75)) ?_
                                rintro _ g76 _ e77 ⟨_, rfl, A75_0_in_, c75_0_in_, rfl, rfl, f75_0_in_⟩
                                refine kk [some 0, some 1, some 2, some 3] ?_
                                have nf75_0_in_ := f75_0_in_.len
                                have f34_0_a1_in_ := f34_0_a1_in_.mono (e44.trans (e63.trans (e66.trans (e69.trans e77)))).b
                                obtain ⟨y78, hy78, hS⟩ := letJ_T hS
                                refine xO1 (lds := [1, 5, 10, 12, 24, 27]) 28 ?_
                                refine xIe (lds := [1, 5, 10, 12, 24, 27]) (e63.trans (e66.trans (e69.trans e77))).r (eC 0 (fun g' lr eb ln => c33 g' y34.2.2.1.a1 A34_0_a1_in_ c34_0_a1_in_ (by rw [eb]; exact f34_0_a1_in_) hy78)) ?_
                                rintro _ g79 _ e80 ⟨_, rfl, A78_0_in_, c78_0_in_, rfl, rfl, f78_0_in_⟩
                                refine kk [some 0, some 1, some 2, some 3] ?_
                                have nf78_0_in_ := f78_0_in_.len
                                have f75_0_in_ := f75_0_in_.mono e80.b
                                obtain ⟨y81, hy81, hS⟩ := letJ_T hS
                                refine xO1 (lds := [1, 5, 10, 12, 24, 27]) 29 ?_
                                refine xIe (lds := [1, 5, 10, 12, 24, 27]) (e63.trans (e66.trans (e69.trans (e77.trans e80)))).r (eC 0 (fun g' lr eb ln => c35 g' y75 A75_0_in_ c75_0_in_ y78 A78_0_in_ c78_0_in_ ((f75_0_in_.mono g79.br).mono lr) ((f78_0_in_.mono g79.br).mono lr) hy81)) ?_
                                rintro _ g82 _ e83 ⟨_, rfl, rfl, rfl⟩
                                refine kk [some 0, some 1, some 2, some 3] ?_
                                refine xT 0 [30, 31] [] [some 0, some 1, some 2, some 3] [(0, vs Al l cl), (5, vp bd14 0), (7, vp bd18 0), (9, vi ((s27.1 : Nat) : Int)), (99, vp b37 0), (100, Value.agg #[vi y34.2.2.1.a0.steps, vi y34.2.2.1.a0.cycle, vb y34.2.2.1.a0.fresh, vs A34_0_a0_in_ y34.2.2.1.a0.in_ c34_0_a0_in_]), (101, Value.agg #[vi y75.steps, vi y75.cycle, vb y75.fresh, vs A75_0_in_ y75.in_ c75_0_in_]), (102, vp b37 4), (103, Value.agg #[vi y34.2.2.1.a1.steps, vi y34.2.2.1.a1.cycle, vb y34.2.2.1.a1.fresh, vs A34_0_a1_in_ y34.2.2.1.a1.in_ c34_0_a1_in_]), (104, Value.agg #[vi y78.steps, vi y78.cycle, vb y78.fresh, vs A78_0_in_ y78.in_ c78_0_in_]), (105, vb y81), (106, vb (!y81)), (107, vb (!y81))] RG (e63.trans (e66.trans (e69.trans (e77.trans (e80.trans e83))))).r ?_
                                refine xSub [(0, vs Al l cl), (5, vp bd14 0), (7, vp bd18 0), (9, vi ((s27.1 : Nat) : Int)), (107, vb (!y81))] ?_
                                exact hN70 _ hS.symm _ _ _ (e77.trans (e80.trans e83)) ⟨by kernel_rfl, by kernel_rfl⟩
                          · intro u67 hS hN67
                            refine wpq_split 91 (b := t64) (by kernel_rfl) (fun q84 => ?_) (fun q84 => ?_)
                            · have hS := cond_T q84 hS
                              refine xT 14 [16, 18] [] [some 0, some 1, some 2, some 3] [(0, vs Al l cl), (5, vp bd14 0), (7, vp bd18 0), (9, vi ((s27.1 : Nat) : Int)), (10, vp b37 0), (91, vb true), (92, undef), (94, undef)] RG (e63.trans e66).r ?_
                              refine xO1 (lds := [1, 5, 10, 12, 24, 27]) 17 ?_
                              refine xIb (lds := [1, 5, 10, 12, 24, 27]) [] ?_
                              refine xO1 (lds := [1, 5, 10, 12, 24, 27]) 19 ?_
                              refine xIb (lds := [1, 5, 10, 12, 24, 27]) [] ?_
                              refine xT 10 [20, 21] [] [some 0, some 1, some 2, some 3] [(0, vs Al l cl), (5, vp bd14 0), (7, vp bd18 0), (9, vi ((s27.1 : Nat) : Int)), (10, vp b37 0), (92, undef), (93, undef), (94, undef), (95, undef), (96, undef), (97, vb true)] RG (e63.trans e66).r ?_
                              refine xSub [(0, vs Al l cl), (5, vp bd14 0), (7, vp bd18 0), (9, vi ((s27.1 : Nat) : Int)), (10, vp b37 0), (97, vb true)] ?_
                              exact hN67 _ hS.symm _ _ _ (Gh.le.refl _) ⟨by kernel_rfl, by kernel_rfl⟩
                            · have hS := cond_F q84 hS
                              refine xT 14 [16, 18] [] [some 0, some 1, some 2, some 3] [(0, vs Al l cl), (5, vp bd14 0), (7, vp bd18 0), (9, vi ((s27.1 : Nat) : Int)), (10, vp b37 0), (91, vb false), (92, vp bd14 0), (94, vp bd18 0)] RG (e63.trans e66).r ?_
                              have Ef34_la_input := f34_la_input.mono e44.b
                              have f34_la_input := f34_la_input.mono (e44.trans (e63.trans e66)).b
                              have Ef34_la_heard_input := f34_la_heard_input.mono e44.b
                              have f34_la_heard_input := f34_la_heard_input.mono (e44.trans (e63.trans e66)).b
                              have Ef34_la_set__in_ := f34_la_set__in_.mono e44.b
                              have f34_la_set__in_ := f34_la_set__in_.mono (e44.trans (e63.trans e66)).b
                              obtain ⟨y85, hy85, hS⟩ := letJ_T hS
                              refine xO1 (lds := [1, 5, 10, 12, 24, 27]) 17 ?_
                              refine xIe (lds := [1, 5, 10, 12, 24, 27]) (e63.trans e66).r (eC 0 (fun g' lr eb ln => c40 g' ⟨bd14, 0, none⟩ y34.1 A34_la_input c34_la_input A34_la_heard_input c34_la_heard_input A34_la_set__in_ c34_la_set__in_ (cells_lent' 4 bd14 0 (cNode y34.1 A34_la_input c34_la_input A34_la_heard_input c34_la_heard_input A34_la_set__in_ c34_la_set__in_) ln) ((f34_la_input.mono g65.br).mono lr) ((f34_la_heard_input.mono g65.br).mono lr) ((f34_la_set__in_.mono g65.br).mono lr) hy85)) ?_
                              rintro _ g86 _ e87 ⟨_, rfl, rfl, rfl⟩
                              refine kk [some 0, some 1, some 2, some 3] ?_
                              have Ef34_lb_input := f34_lb_input.mono e44.b
                              have f34_lb_input := f34_lb_input.mono (e44.trans (e63.trans (e66.trans e87))).b
                              have Ef34_lb_heard_input := f34_lb_heard_input.mono e44.b
                              have f34_lb_heard_input := f34_lb_heard_input.mono (e44.trans (e63.trans (e66.trans e87))).b
                              have Ef34_lb_set__in_ := f34_lb_set__in_.mono e44.b
                              have f34_lb_set__in_ := f34_lb_set__in_.mono (e44.trans (e63.trans (e66.trans e87))).b
                              obtain ⟨y88, hy88, hS⟩ := letJ_T hS
                              refine xO1 (lds := [1, 5, 10, 12, 24, 27]) 19 ?_
                              refine xIe (lds := [1, 5, 10, 12, 24, 27]) (e63.trans (e66.trans e87)).r (eC 0 (fun g' lr eb ln => c40 g' ⟨bd18, 0, none⟩ y34.2.1 A34_lb_input c34_lb_input A34_lb_heard_input c34_lb_heard_input A34_lb_set__in_ c34_lb_set__in_ (cells_lent' 5 bd18 0 (cNode y34.2.1 A34_lb_input c34_lb_input A34_lb_heard_input c34_lb_heard_input A34_lb_set__in_ c34_lb_set__in_) ln) ((f34_lb_input.mono g86.br).mono lr) ((f34_lb_heard_input.mono g86.br).mono lr) ((f34_lb_set__in_.mono g86.br).mono lr) hy88)) ?_
                              rintro _ g89 _ e90 ⟨_, rfl, rfl, rfl⟩
                              refine kk [some 0, some 1, some 2, some 3] ?_
                              refine xT 10 [20, 21] [] [some 0, some 1, some 2, some 3] [(0, vs Al l cl), (5, vp bd14 0), (7, vp bd18 0), (9, vi ((s27.1 : Nat) : Int)), (10, vp b37 0), (92, vp bd14 0), (93, vi y85), (94, vp bd18 0), (95, vi y88), (96, vb (y85 != y88)), (97, vb (y85 != y88))] RG (e63.trans (e66.trans (e87.trans e90))).r ?_
                              refine xSub [(0, vs Al l cl), (5, vp bd14 0), (7, vp bd18 0), (9, vi ((s27.1 : Nat) : Int)), (10, vp b37 0), (97, vb (y85 != y88))] ?_
                              exact hN67 _ hS.symm _ _ _ (e87.trans e90) ⟨by kernel_rfl, by kernel_rfl⟩
                        · intro u64 hS hN64
                          refine wpq_split 84 (b := t61) (by kernel_rfl) (fun q91 => ?_) (fun q91 => ?_)
                          · have hS := cond_T q91 hS
                            refine xT 17 [9, 10, 11, 12, 13, 14] [] [some 0, some 1, some 2, some 3] [(0, vs Al l cl), (5, vp bd14 0), (7, vp bd18 0), (9, vi ((s27.1 : Nat) : Int)), (10, vp b37 0), (85, undef), (86, undef), (87, undef), (88, undef), (89, undef), (90, vb true)] RG e63.r ?_
                            refine xSub [(0, vs Al l cl), (5, vp bd14 0), (7, vp bd18 0), (9, vi ((s27.1 : Nat) : Int)), (10, vp b37 0), (90, vb true)] ?_
                            exact hN64 _ hS.symm _ _ _ (Gh.le.refl _) ⟨by kernel_rfl, by kernel_rfl⟩
                          · have hS := cond_F q91 hS
                            refine xT 19 [9, 10, 11, 12] [(10, 1), (12, 1)] [some 0, some 1, some 2, some 3] [(0, vs Al l cl), (5, vp bd14 0), (7, vp bd18 0), (9, vi ((s27.1 : Nat) : Int)), (10, vp b37 0), (84, vb false), (85, vp b39 0), (86, Value.agg #[vy y34.2.2.2.2.1.a0.lateral, vy y34.2.2.2.2.1.a0.vertical, vy y34.2.2.2.2.1.a0.phase, vi y34.2.2.2.2.1.a0.bank, vi y34.2.2.2.2.1.a0.speed, vi y34.2.2.2.2.1.a0.alt, vi y34.2.2.2.2.1.a0.vs]), (87, vp b39 7), (88, Value.agg #[vy y34.2.2.2.2.1.a1.lateral, vy y34.2.2.2.2.1.a1.vertical, vy y34.2.2.2.2.1.a1.phase, vi y34.2.2.2.2.1.a1.bank, vi y34.2.2.2.2.1.a1.speed, vi y34.2.2.2.2.1.a1.alt, vi y34.2.2.2.2.1.a1.vs])] RG e63.r ?_
                            refine xTp 13 RG (fun _ => (qNeA (((y34.2.2.2.2.1.a0.lateral == y34.2.2.2.2.1.a1.lateral) && ((y34.2.2.2.2.1.a0.vertical == y34.2.2.2.2.1.a1.vertical) && ((y34.2.2.2.2.1.a0.phase == y34.2.2.2.2.1.a1.phase) && ((y34.2.2.2.2.1.a0.bank == y34.2.2.2.2.1.a1.bank) && ((y34.2.2.2.2.1.a0.speed == y34.2.2.2.2.1.a1.speed) && ((y34.2.2.2.2.1.a0.alt == y34.2.2.2.2.1.a1.alt) && (y34.2.2.2.2.1.a0.vs == y34.2.2.2.2.1.a1.vs)))))))))) ?_
                            refine xT 17 [14] [] [some 0, some 1, some 2, some 3] [(0, vs Al l cl), (5, vp bd14 0), (7, vp bd18 0), (9, vi ((s27.1 : Nat) : Int)), (10, vp b37 0), (85, vp b39 0), (86, Value.agg #[vy y34.2.2.2.2.1.a0.lateral, vy y34.2.2.2.2.1.a0.vertical, vy y34.2.2.2.2.1.a0.phase, vi y34.2.2.2.2.1.a0.bank, vi y34.2.2.2.2.1.a0.speed, vi y34.2.2.2.2.1.a0.alt, vi y34.2.2.2.2.1.a0.vs]), (87, vp b39 7), (88, Value.agg #[vy y34.2.2.2.2.1.a1.lateral, vy y34.2.2.2.2.1.a1.vertical, vy y34.2.2.2.2.1.a1.phase, vi y34.2.2.2.2.1.a1.bank, vi y34.2.2.2.2.1.a1.speed, vi y34.2.2.2.2.1.a1.alt, vi y34.2.2.2.2.1.a1.vs]), (89, vb (!((y34.2.2.2.2.1.a0.lateral == y34.2.2.2.2.1.a1.lateral) && ((y34.2.2.2.2.1.a0.vertical == y34.2.2.2.2.1.a1.vertical) && ((y34.2.2.2.2.1.a0.phase == y34.2.2.2.2.1.a1.phase) && ((y34.2.2.2.2.1.a0.bank == y34.2.2.2.2.1.a1.bank) && ((y34.2.2.2.2.1.a0.speed == y34.2.2.2.2.1.a1.speed) && ((y34.2.2.2.2.1.a0.alt == y34.2.2.2.2.1.a1.alt) && (y34.2.2.2.2.1.a0.vs == y34.2.2.2.2.1.a1.vs))))))))), (90, vb (!((y34.2.2.2.2.1.a0.lateral == y34.2.2.2.2.1.a1.lateral) && ((y34.2.2.2.2.1.a0.vertical == y34.2.2.2.2.1.a1.vertical) && ((y34.2.2.2.2.1.a0.phase == y34.2.2.2.2.1.a1.phase) && ((y34.2.2.2.2.1.a0.bank == y34.2.2.2.2.1.a1.bank) && ((y34.2.2.2.2.1.a0.speed == y34.2.2.2.2.1.a1.speed) && ((y34.2.2.2.2.1.a0.alt == y34.2.2.2.2.1.a1.alt) && (y34.2.2.2.2.1.a0.vs == y34.2.2.2.2.1.a1.vs)))))))))] RG e63.r ?_
                            refine xSub [(0, vs Al l cl), (5, vp bd14 0), (7, vp bd18 0), (9, vi ((s27.1 : Nat) : Int)), (10, vp b37 0), (90, vb (!((y34.2.2.2.2.1.a0.lateral == y34.2.2.2.2.1.a1.lateral) && ((y34.2.2.2.2.1.a0.vertical == y34.2.2.2.2.1.a1.vertical) && ((y34.2.2.2.2.1.a0.phase == y34.2.2.2.2.1.a1.phase) && ((y34.2.2.2.2.1.a0.bank == y34.2.2.2.2.1.a1.bank) && ((y34.2.2.2.2.1.a0.speed == y34.2.2.2.2.1.a1.speed) && ((y34.2.2.2.2.1.a0.alt == y34.2.2.2.2.1.a1.alt) && (y34.2.2.2.2.1.a0.vs == y34.2.2.2.2.1.a1.vs)))))))))] ?_
                            exact hN64 _ hS.symm _ _ _ (Gh.le.refl _) ⟨by kernel_rfl, by kernel_rfl⟩
                      · intro u61 hS hN61
                        refine wpq_split 79 (b := (!y34.2.2.2.1.a0)) (by kernel_rfl) (fun q92 => ?_) (fun q92 => ?_)
                        · have hS := cond_T q92 hS
                          have q92n := not_eq_true_ q92
                          refine xT 24 [4, 5, 6, 7] [] [some 0, some 1, some 2, some 3] [(0, vs Al l cl), (5, vp bd14 0), (7, vp bd18 0), (9, vi ((s27.1 : Nat) : Int)), (10, vp b37 0), (12, vp b39 0), (80, undef), (81, undef), (82, undef), (83, vb true)] RG (Psi.le.refl _) ?_
                          refine xSub [(0, vs Al l cl), (5, vp bd14 0), (7, vp bd18 0), (9, vi ((s27.1 : Nat) : Int)), (10, vp b37 0), (12, vp b39 0), (83, vb true)] ?_
                          exact hN61 _ hS.symm _ _ _ (Gh.le.refl _) ⟨by kernel_rfl, by kernel_rfl⟩
                        · have hS := cond_F q92 hS
                          have q92n := not_eq_false_ q92
                          refine xT 24 [4, 5, 6, 7] [(5, 2)] [some 0, some 1, some 2, some 3] [(0, vs Al l cl), (5, vp bd14 0), (7, vp bd18 0), (9, vi ((s27.1 : Nat) : Int)), (10, vp b37 0), (12, vp b39 0), (80, vp b38 1), (81, vb y34.2.2.2.1.a1), (82, vb (!y34.2.2.2.1.a1)), (83, vb (!y34.2.2.2.1.a1))] RG (Psi.le.refl _) ?_
                          refine xSub [(0, vs Al l cl), (5, vp bd14 0), (7, vp bd18 0), (9, vi ((s27.1 : Nat) : Int)), (10, vp b37 0), (12, vp b39 0), (83, vb (!y34.2.2.2.1.a1))] ?_
                          exact hN61 _ hS.symm _ _ _ (Gh.le.refl _) ⟨by kernel_rfl, by kernel_rfl⟩
                    · have hS := cond_F h60 hS
                      refine xSk ?_
                      refine xSel [some 4, some 5] ?_
                      refine xSub [(0, vs Al l cl), (5, vp bd14 0), (7, vp bd18 0), (9, vi ((s27.1 : Nat) : Int))] ?_
                      have eS := (Option.some.inj hS).symm
                      exact hN45 _ eS _ _ _ (Gh.le.refl _) ⟨by kernel_rfl, by kernel_rfl⟩
                · intro u42 hS hN42
                  refine wpq_split 71 (b := (y34.2.2.2.2.2.1.a0 == 4)) (by kernel_rfl) (fun q93 => ?_) (fun q93 => ?_)
                  · have hS := cond_T q93 hS
                    have q93p : y34.2.2.2.2.2.1.a0 = 4 := eq_of_beq q93
                    refine xB 4 [(5, 0)] [(0, vs Al l cl), (5, vp bd14 0), (7, vp bd18 0), (9, vi ((s27.1 : Nat) : Int)), (10, vp b37 0), (11, vp b38 0), (12, vp b39 0), (72, vp b40 1), (73, vy y34.2.2.2.2.2.1.a1), (74, vb (y34.2.2.2.2.2.1.a1 == 4)), (75, vb (y34.2.2.2.2.2.1.a1 == 4))] ?_
                    refine xSub [(0, vs Al l cl), (5, vp bd14 0), (7, vp bd18 0), (9, vi ((s27.1 : Nat) : Int)), (10, vp b37 0), (11, vp b38 0), (12, vp b39 0), (75, vb (y34.2.2.2.2.2.1.a1 == 4))] ?_
                    exact hN42 _ hS.symm _ _ _ (Gh.le.refl _) ⟨by kernel_rfl, by kernel_rfl⟩
                  · have hS := cond_F q93 hS
                    have q93p : ¬ (y34.2.2.2.2.2.1.a0 = 4) := ne_of_beq_false_ q93
                    refine xB 4 [] [(0, vs Al l cl), (5, vp bd14 0), (7, vp bd18 0), (9, vi ((s27.1 : Nat) : Int)), (10, vp b37 0), (11, vp b38 0), (12, vp b39 0), (72, undef), (73, undef), (74, undef), (75, vb false)] ?_
                    refine xSub [(0, vs Al l cl), (5, vp bd14 0), (7, vp bd18 0), (9, vi ((s27.1 : Nat) : Int)), (10, vp b37 0), (11, vp b38 0), (12, vp b39 0), (75, vb false)] ?_
                    exact hN42 _ hS.symm _ _ _ (Gh.le.refl _) ⟨by kernel_rfl, by kernel_rfl⟩
            · have hS := cond_F h31 hS
              refine xEx 0 ?_
              refine wpq_thenX ?_
              refine wpq_thenX ?_
              refine wpq_blockE ?_
              refine xSel [] ?_
              refine xSub [] ?_
              have eS := (Option.some.inj hS).symm
              have eS := (hD27 _ eS).symm
              exact hN22 _ eS _ _ _ e29 ⟨by kernel_rfl, by kernel_rfl⟩

end Go.Proofs.Ytgnajpoebooafaa
