/-
Walks, printed by wip/gen, with half of their indentation. Conditions: each theorem's own.
-/
import Derived.Test.YtfhchendnfpbkaaA3
namespace Go.Proofs.Ytfhchendnfpbkaa
set_option linter.unusedVariables false
set_option linter.unusedSimpArgs false
open Go.RowKit
def o10 : Option (Bool) :=
 (bindO (τ := (List AlertDef)) (o15) fun y1 => (bindO (τ := (Option Board) × Int) (o12 (y1 : List AlertDef)) fun y4 => (bindO (τ := Board) (y4.1) fun d8 => (bindO (τ := Bool × Board) (cond (((y4.2 != 0) || (Option.isNone (y4.1)))) (some (true, (d8 : Board))) (bindO (τ := Board × Int) (o17 d8 (5 : Int) (2 : Int)) fun y88 => (some ((y88.2 != 0), (y88.1 : Board))))) fun t9 => (cond (t9.1) (some ((false))) (bindO (τ := (List Int)) (o23 t9.2) fun y13 => (bindO (τ := Bool) (o32 (y13 : List Int) (([(0 : Int), (2 : Int)] : List Int) : List Int)) fun y17 => (bindO (τ := Bool) (cond (y17) (bindO (τ := (List Int)) (o19 t9.2) fun y80 => (bindO (τ := Bool) (o32 (y80 : List Int) (([(0 : Int)] : List Int) : List Int)) fun y84 => (some (y84)))) (some (false))) fun t20 => (bindO (τ := Bool) (cond (t20) (bindO (τ := Int) (o21 t9.2) fun y76 => (some (y76 == 1))) (some (false))) fun t23 => (bindO (τ := Bool × Board) (cond (t23) (bindO (τ := Board × Int) (o18 t9.2 (2 : Int)) fun y72 => (some ((y72.2 == 8), (y72.1 : Board)))) (some (false, (t9.2 : Board)))) fun t26 => (bindO (τ := Bool × Board) (cond (t26.1) (bindO (τ := Board × Int) (o18 t26.2 (0 : Int)) fun y68 => (some ((y68.2 == 0), (y68.1 : Board)))) (some (false, (t26.2 : Board)))) fun t29 => (bindO (τ := Bool) (cond (t29.1) (bindO (τ := (List Int)) (o19 t29.2) fun y64 => (some ((((y64).length : Nat) : Int) == 0))) (some (false))) fun t32 => (bindO (τ := Board × Int) (o17 t29.2 (5 : Int) (3 : Int)) fun y35 => (bindO (τ := (List Int)) (o19 y35.1) fun y38 => (bindO (τ := Bool) (o32 (y38 : List Int) (([(2 : Int)] : List Int) : List Int)) fun y42 => (bindO (τ := Board × Int) (o17 y35.1 (4 : Int) (3 : Int)) fun y45 => (bindO (τ := Board × Int) (o17 y45.1 (5 : Int) (3 : Int)) fun y48 => (bindO (τ := Bool) (cond ((t32 && y42)) (bindO (τ := (List Int)) (o19 y48.1) fun y56 => (bindO (τ := Bool) (o32 (y56 : List Int) (([(0 : Int), (2 : Int)] : List Int) : List Int)) fun y60 => (some (y60)))) (some (false))) fun t52 => (some ((t52)))))))))))))))))))))
set_option maxRecDepth 100000 in
theorem c10 (g : Gh)  {r : Bool} (hS : o10 = some r) :
  Ctr Try.prog 10 [] g [] (fun v ψ o => v = vb r ∧ o = []) := by
 unfold o10 at hS
 refine xFn Try.f10 (Try.f10.body.getD .skip) 72 ?_
 refine xSq ?_
 refine xRg ?_
 refine xB 1 [] [] ?_
 refine xRe ?_
 refine wpq_then ?_
 refine xSq ?_
 refine xRg ?_
 obtain ⟨y1, hy1, hS⟩ := bindO_T hS
 refine xE (eC 0 (fun g' lr eb ln => c15 g'  hy1)) ?_
 rintro _ g2 _ e3 ⟨_, rfl, A1_0, c1_0, k1_0, rfl, rfl, h1_0⟩
 have nh1_0 := h1_0.len
 obtain ⟨y4, hy4, hS⟩ := bindO_T hS
 refine xE (eC 0 (fun g' lr eb ln => c12 g' (y1 : List AlertDef) A1_0 c1_0 (arrm_of_buf h1_0 eb (lentk 0 (by kernel_rfl) ln)) hy4)) ?_
 rintro _ g5 _ e6 ⟨_, rfl, v4_0, k4_0, k4_0_0, rfl, rfl, hn4_0, hs4_0⟩
 refine xB 5 [] [(1, v4_0), (2, vi y4.2)] ?_
 refine xRe ?_
 refine wpq_then ?_
 refine xSq ?_
 refine xSq ?_
 refine xRg ?_
 refine xB 3 [] [(1, v4_0), (12, vb (y4.2 != 0))] ?_
 refine wpr_grp 6 [(1, v4_0), (15, vb ((y4.2 != 0) || (Option.isNone (y4.1))))] (fun hk2 => ?_) ?_
 ·refine wpq_split 12 (b := (y4.2 != 0)) (by kernel_rfl) (fun q7 => ?_) (fun q7 => ?_)
  ·have q7p : ¬ (y4.2 = 0) := ne_of_bne_ q7
   refine xB 3 [] [(1, v4_0), (15, vb true)] ?_
   refine wpq_re 15 (v := vb true) (Value.bool (((y4.2 != 0) || (Option.isNone (y4.1))))) (by kernel_rfl) (re_or1 q7) ?_
   exact wpq_sub _ (by kernel_rfl) hk2
  ·have q7p : y4.2 = 0 := eq_of_bne_false_ q7
   refine xB 1 [] [(1, v4_0), (12, vb false), (13, v4_0)] ?_
   refine xV (qPn hn4_0 (fun d h => by obtain ⟨_, _, _, _, _, _, h1, _⟩ := hs4_0 d h; exact ⟨_, h1⟩)) ?_
   refine xB 1 [] [(1, v4_0), (15, vb (Option.isNone (y4.1)))] ?_
   refine wpq_re 15 (v := vb (Option.isNone (y4.1))) (Value.bool (((y4.2 != 0) || (Option.isNone (y4.1))))) (by kernel_rfl) (re_or0 q7) ?_
   exact wpq_sub _ (by kernel_rfl) hk2
 ·refine xB 1 [] [(1, v4_0), (16, vb ((y4.2 != 0) || (Option.isNone (y4.1))))] ?_
  obtain ⟨d8, ed8, hS⟩ := bindO_T hS
  obtain ⟨bd8, Ad8_defs, cd8_defs, Ad8_conds, cd8_conds, kd8_conds, rfl, rfl, rfl, fd8_defs, hd8_conds⟩ := hs4_0 d8 ed8
  have nfd8_defs := fd8_defs.len
  have nhd8_conds := hd8_conds.len
  refine xGJo hS 11 (fun g own sl t9 => ∃ (A9_1_defs : Option Addr) (c9_1_defs : Nat) (A9_1_conds : Option Addr) (c9_1_conds : Nat) (k9_1_conds : Option Bk), own = [some ⟨bd8, 71, (cBoard t9.2 A9_1_defs c9_1_defs A9_1_conds c9_1_conds)⟩, k9_1_conds] ∧ sl = [(1, vp bd8 0), (20, vb t9.1)] ∧ Arr g.b tyAlertDef A9_1_defs c9_1_defs t9.2.defs ∧ Buf g.b tyCnd 79 (.slice A9_1_conds (t9.2.conds).length c9_1_conds) k9_1_conds t9.2.conds) ?_ ?_
  ·rintro g10 _ _ t9 e11 ⟨A9_1_defs, c9_1_defs, A9_1_conds, c9_1_conds, k9_1_conds, rfl, rfl, f9_1_defs, h9_1_conds⟩ hS
   have nf9_1_defs := f9_1_defs.len
   have nh9_1_conds := h9_1_conds.len
   refine xRe ?_
   refine wpq_then ?_
   refine xCd (t9.1) (fun h12 => ?_) (fun h12 => ?_)
   ·have hS := cond_T h12 hS
    refine xSq ?_
    refine xRg ?_
    refine xB 1 [] [(0, vb false)] ?_
    refine xRe ?_
    refine wpq_then ?_
    have eS := (Option.some.inj hS).symm
    subst eS
    exact xRet [] [0] (e3.trans (e6.trans e11)) ⟨by kernel_rfl, by kernel_rfl⟩ (fun _ _ h => h)
   ·have hS := cond_F h12 hS
    refine xSk ?_
    refine wpq_then ?_
    refine xSub [(1, vp bd8 0)] ?_
    refine xSq ?_
    refine xRg ?_
    refine xB 1 [] [(1, vp bd8 0), (21, vp bd8 0)] ?_
    obtain ⟨y13, hy13, hS⟩ := bindO_T hS
    refine xE (eC 0 (fun g' lr eb ln => c23 g' ⟨bd8, 0, none⟩ t9.2 A9_1_defs c9_1_defs A9_1_conds c9_1_conds (cells_lent' 0 bd8 0 (cBoard t9.2 A9_1_defs c9_1_defs A9_1_conds c9_1_conds) ln) ((f9_1_defs.mono g10.br).mono lr) (arrm_of_buf h9_1_conds eb (lentk 1 (by kernel_rfl) ln)) hy13)) ?_
    rintro _ g14 _ e15 ⟨_, rfl, A13_0, c13_0, k13_0, rfl, rfl, h13_0⟩
    have nh13_0 := h13_0.len
    refine xE (eBs (T := (tyI .i64)) (p := g14.b) (et := 3) (xs := ([(0 : Int), (2 : Int)] : List Int)) (reps_cons (c := [vi 0]) (show (tyI .i64).rep _ _ _ from rfl) (reps_cons (c := [vi 2]) (show (tyI .i64).rep _ _ _ from rfl) reps_nil)) (by simp)) ?_
    rintro _ _ _ - ⟨A16, c16, k16, rfl, rfl, rfl, h16⟩
    obtain ⟨y17, hy17, hS⟩ := bindO_T hS
    refine xE (eC 0 (fun g' lr eb ln => c32 g' (y13 : List Int) A13_0 c13_0 (([(0 : Int), (2 : Int)] : List Int) : List Int) A16 c16 (arr_of_buf h13_0 (Psi.le_b eb) (lentk 1 (by kernel_rfl) ln)) (arr_of_buf h16 (Psi.le_b eb) (lentk 0 (by kernel_rfl) ln)) hy17)) ?_
    rintro _ g18 _ e19 ⟨_, rfl, rfl, rfl⟩
    refine xB 1 [] [(1, vp bd8 0), (25, vb y17)] ?_
    refine xGJo hS 10 (fun g own sl t20 => own = [some ⟨bd8, 71, (cBoard t9.2 A9_1_defs c9_1_defs A9_1_conds c9_1_conds)⟩, k9_1_conds] ∧ sl = [(1, vp bd8 0), (30, vb t20)]) ?_ ?_
    ·rintro g21 _ _ t20 e22 ⟨rfl, rfl⟩ hS
     refine xB 1 [] [(1, vp bd8 0), (31, vb t20)] ?_
     refine xGJo hS 15 (fun g own sl t23 => own = [some ⟨bd8, 71, (cBoard t9.2 A9_1_defs c9_1_defs A9_1_conds c9_1_conds)⟩, k9_1_conds] ∧ sl = [(1, vp bd8 0), (35, vb t23)]) ?_ ?_
     ·rintro g24 _ _ t23 e25 ⟨rfl, rfl⟩ hS
      refine xB 1 [] [(1, vp bd8 0), (36, vb t23)] ?_
      refine xGJo hS 20 (fun g own sl t26 => ∃ (A26_1_defs : Option Addr) (c26_1_defs : Nat) (A26_1_conds : Option Addr) (c26_1_conds : Nat) (k26_1_conds : Option Bk), own = [some ⟨bd8, 71, (cBoard t26.2 A26_1_defs c26_1_defs A26_1_conds c26_1_conds)⟩, k26_1_conds] ∧ sl = [(1, vp bd8 0), (40, vb t26.1)] ∧ Arr g.b tyAlertDef A26_1_defs c26_1_defs t26.2.defs ∧ Buf g.b tyCnd 79 (.slice A26_1_conds (t26.2.conds).length c26_1_conds) k26_1_conds t26.2.conds) ?_ ?_
      ·rintro g27 _ _ t26 e28 ⟨A26_1_defs, c26_1_defs, A26_1_conds, c26_1_conds, k26_1_conds, rfl, rfl, f26_1_defs, h26_1_conds⟩ hS
       have nf26_1_defs := f26_1_defs.len
       have nh26_1_conds := h26_1_conds.len
       refine xB 1 [] [(1, vp bd8 0), (41, vb t26.1)] ?_
       refine xGJo hS 25 (fun g own sl t29 => ∃ (A29_1_defs : Option Addr) (c29_1_defs : Nat) (A29_1_conds : Option Addr) (c29_1_conds : Nat) (k29_1_conds : Option Bk), own = [some ⟨bd8, 71, (cBoard t29.2 A29_1_defs c29_1_defs A29_1_conds c29_1_conds)⟩, k29_1_conds] ∧ sl = [(1, vp bd8 0), (45, vb t29.1)] ∧ Arr g.b tyAlertDef A29_1_defs c29_1_defs t29.2.defs ∧ Buf g.b tyCnd 79 (.slice A29_1_conds (t29.2.conds).length c29_1_conds) k29_1_conds t29.2.conds) ?_ ?_
       ·rintro g30 _ _ t29 e31 ⟨A29_1_defs, c29_1_defs, A29_1_conds, c29_1_conds, k29_1_conds, rfl, rfl, f29_1_defs, h29_1_conds⟩ hS
        have nf29_1_defs := f29_1_defs.len
        have nh29_1_conds := h29_1_conds.len
        refine xB 1 [] [(1, vp bd8 0), (46, vb t29.1)] ?_
        refine xGJo hS 31 (fun g own sl t32 => own = [some ⟨bd8, 71, (cBoard t29.2 A29_1_defs c29_1_defs A29_1_conds c29_1_conds)⟩, k29_1_conds] ∧ sl = [(1, vp bd8 0), (51, vb t32)]) ?_ ?_
        ·rintro g33 _ _ t32 e34 ⟨rfl, rfl⟩ hS
         refine xB 1 [] [(1, vp bd8 0), (3, vb t32)] ?_
         refine xRe ?_
         refine wpq_then ?_
         refine xSq ?_
         refine xRg ?_
         refine xB 1 [] [(1, vp bd8 0), (3, vb t32), (52, vp bd8 0)] ?_
         have f29_1_defs := f29_1_defs.mono e34.b
         have h29_1_conds := h29_1_conds.mono e34.b
         obtain ⟨y35, hy35, hS⟩ := bindO_T hS
         refine xE (eC 2 (fun g' lr eb ln => c17 g' bd8 t29.2 A29_1_defs c29_1_defs A29_1_conds c29_1_conds k29_1_conds (5 : Int) (3 : Int) (by rw [eb]; exact f29_1_defs) (by rw [eb]; exact h29_1_conds) hy35)) ?_
         rintro _ g36 _ e37 ⟨_, rfl, A35_b_defs, c35_b_defs, A35_b_conds, c35_b_conds, k35_b_conds, rfl, rfl, f35_b_defs, h35_b_conds⟩
         have nf35_b_defs := f35_b_defs.len
         have nh35_b_conds := h35_b_conds.len
         refine xRe ?_
         refine wpq_then ?_
         refine xSub [(1, vp bd8 0), (3, vb t32)] ?_
         refine xSq ?_
         refine xRg ?_
         refine xB 1 [] [(1, vp bd8 0), (3, vb t32), (54, vp bd8 0)] ?_
         obtain ⟨y38, hy38, hS⟩ := bindO_T hS
         refine xE (eC 0 (fun g' lr eb ln => c19 g' ⟨bd8, 0, none⟩ y35.1 A35_b_defs c35_b_defs A35_b_conds c35_b_conds (cells_lent' 0 bd8 0 (cBoard y35.1 A35_b_defs c35_b_defs A35_b_conds c35_b_conds) ln) ((f35_b_defs.mono g36.br).mono lr) (arrm_of_buf h35_b_conds eb (lentk 1 (by kernel_rfl) ln)) hy38)) ?_
         rintro _ g39 _ e40 ⟨_, rfl, A38_0, c38_0, k38_0, rfl, rfl, h38_0⟩
         have nh38_0 := h38_0.len
         refine xE (eBs (T := (tyI .i64)) (p := g39.b) (et := 3) (xs := ([(2 : Int)] : List Int)) (reps_cons (c := [vi 2]) (show (tyI .i64).rep _ _ _ from rfl) reps_nil) (by simp)) ?_
         rintro _ _ _ - ⟨A41, c41, k41, rfl, rfl, rfl, h41⟩
         obtain ⟨y42, hy42, hS⟩ := bindO_T hS
         refine xE (eC 0 (fun g' lr eb ln => c32 g' (y38 : List Int) A38_0 c38_0 (([(2 : Int)] : List Int) : List Int) A41 c41 (arr_of_buf h38_0 (Psi.le_b eb) (lentk 1 (by kernel_rfl) ln)) (arr_of_buf h41 (Psi.le_b eb) (lentk 0 (by kernel_rfl) ln)) hy42)) ?_
         rintro _ g43 _ e44 ⟨_, rfl, rfl, rfl⟩
         refine xB 1 [] [(1, vp bd8 0), (3, vb t32), (4, vb y42)] ?_
         refine xRe ?_
         refine wpq_then ?_
         refine xSq ?_
         refine xRg ?_
         refine xB 1 [] [(1, vp bd8 0), (3, vb t32), (4, vb y42), (58, vp bd8 0)] ?_
         refine xSel [some 2, some 3, some 0, some 1] ?_
         have f35_b_defs := f35_b_defs.mono (e40.trans e44).b
         have h35_b_conds := h35_b_conds.mono (e40.trans e44).b
         obtain ⟨y45, hy45, hS⟩ := bindO_T hS
         refine xE (eC 2 (fun g' lr eb ln => c17 g' bd8 y35.1 A35_b_defs c35_b_defs A35_b_conds c35_b_conds k35_b_conds (4 : Int) (3 : Int) (by rw [eb]; exact f35_b_defs) (by rw [eb]; exact h35_b_conds) hy45)) ?_
         rintro _ g46 _ e47 ⟨_, rfl, A45_b_defs, c45_b_defs, A45_b_conds, c45_b_conds, k45_b_conds, rfl, rfl, f45_b_defs, h45_b_conds⟩
         have nf45_b_defs := f45_b_defs.len
         have nh45_b_conds := h45_b_conds.len
         refine xRe ?_
         refine wpq_then ?_
         refine xSub [(1, vp bd8 0), (3, vb t32), (4, vb y42)] ?_
         refine xSq ?_
         refine xRg ?_
         refine xB 1 [] [(1, vp bd8 0), (3, vb t32), (4, vb y42), (60, vp bd8 0)] ?_
         obtain ⟨y48, hy48, hS⟩ := bindO_T hS
         refine xE (eC 2 (fun g' lr eb ln => c17 g' bd8 y45.1 A45_b_defs c45_b_defs A45_b_conds c45_b_conds k45_b_conds (5 : Int) (3 : Int) (by rw [eb]; exact f45_b_defs) (by rw [eb]; exact h45_b_conds) hy48)) ?_
         rintro _ g49 _ e50 ⟨_, rfl, A48_b_defs, c48_b_defs, A48_b_conds, c48_b_conds, k48_b_conds, rfl, rfl, f48_b_defs, h48_b_conds⟩
         have nf48_b_defs := f48_b_defs.len
         have nh48_b_conds := h48_b_conds.len
         refine xRe ?_
         refine wpq_then ?_
         refine xSub [(1, vp bd8 0), (3, vb t32), (4, vb y42)] ?_
         refine xSq ?_
         refine xRg ?_
         refine xB 2 [] [(1, vp bd8 0), (4, vb y42), (63, vb t32)] ?_
         refine wpr_grp 4 [(1, vp bd8 0), (65, vb (t32 && y42))] (fun hk1 => ?_) ?_
         ·refine wpq_split 63 (b := t32) (by kernel_rfl) (fun q51 => ?_) (fun q51 => ?_)
          ·refine xB 2 [] [(1, vp bd8 0), (65, vb y42)] ?_
           refine wpq_re 65 (v := vb y42) (Value.bool ((t32 && y42))) (by kernel_rfl) (re_and1 q51) ?_
           exact wpq_sub _ (by kernel_rfl) hk1
          ·refine xB 2 [] [(1, vp bd8 0), (65, vb false)] ?_
           refine wpq_re 65 (v := vb false) (Value.bool ((t32 && y42))) (by kernel_rfl) (re_and0 q51) ?_
           exact wpq_sub _ (by kernel_rfl) hk1
         ·refine xB 1 [] [(1, vp bd8 0), (66, vb (t32 && y42))] ?_
          refine xGJo hS 10 (fun g own sl t52 => own = [] ∧ sl = [(71, vb t52)]) ?_ ?_
          ·rintro g53 _ _ t52 e54 ⟨rfl, rfl⟩ hS
           refine xB 1 [] [(0, vb t52)] ?_
           refine xRe ?_
           refine wpq_then ?_
           have eS := (Option.some.inj hS).symm
           subst eS
           exact xRet [] [0] (e3.trans (e6.trans (e11.trans (e15.trans (e19.trans (e22.trans (e25.trans (e28.trans (e31.trans (e34.trans (e37.trans (e40.trans (e44.trans (e47.trans (e50.trans e54))))))))))))))) ⟨by kernel_rfl, by kernel_rfl⟩ (fun _ _ h => h)
          ·intro uu52 hS hN52
           refine wpq_split 66 (b := (t32 && y42)) (by kernel_rfl) (fun q55 => ?_) (fun q55 => ?_)
           ·have hS := cond_T q55 hS
            have q55l := (and_true_ q55).1
            have q55r := (and_true_ q55).2
            refine xB 1 [] [(66, vb true), (67, vp bd8 0)] ?_
            obtain ⟨y56, hy56, hS⟩ := bindO_T hS
            refine xE (eC 0 (fun g' lr eb ln => c19 g' ⟨bd8, 0, none⟩ y48.1 A48_b_defs c48_b_defs A48_b_conds c48_b_conds (cells_lent' 0 bd8 0 (cBoard y48.1 A48_b_defs c48_b_defs A48_b_conds c48_b_conds) ln) ((f48_b_defs.mono g49.br).mono lr) (arrm_of_buf h48_b_conds eb (lentk 1 (by kernel_rfl) ln)) hy56)) ?_
            rintro _ g57 _ e58 ⟨_, rfl, A56_0, c56_0, k56_0, rfl, rfl, h56_0⟩
            have nh56_0 := h56_0.len
            refine xE (eBs (T := (tyI .i64)) (p := g57.b) (et := 3) (xs := ([(0 : Int), (2 : Int)] : List Int)) (reps_cons (c := [vi 0]) (show (tyI .i64).rep _ _ _ from rfl) (reps_cons (c := [vi 2]) (show (tyI .i64).rep _ _ _ from rfl) reps_nil)) (by simp)) ?_
            rintro _ _ _ - ⟨A59, c59, k59, rfl, rfl, rfl, h59⟩
            obtain ⟨y60, hy60, hS⟩ := bindO_T hS
            refine xE (eC 0 (fun g' lr eb ln => c32 g' (y56 : List Int) A56_0 c56_0 (([(0 : Int), (2 : Int)] : List Int) : List Int) A59 c59 (arr_of_buf h56_0 (Psi.le_b eb) (lentk 1 (by kernel_rfl) ln)) (arr_of_buf h59 (Psi.le_b eb) (lentk 0 (by kernel_rfl) ln)) hy60)) ?_
            rintro _ g61 _ e62 ⟨_, rfl, rfl, rfl⟩
            refine xB 1 [] [(71, vb y60)] ?_
            refine xSel [] ?_
            refine xSub [(71, vb y60)] ?_
            exact hN52 _ (Option.some.inj hS).symm _ _ _ (e58.trans e62) ⟨by kernel_rfl, by kernel_rfl⟩
           ·have hS := cond_F q55 hS
            refine xB 5 [] [(71, vb false)] ?_
            refine xSel [] ?_
            refine xSub [(71, vb false)] ?_
            exact hN52 _ (Option.some.inj hS).symm _ _ _ (Gh.le.refl _) ⟨by kernel_rfl, by kernel_rfl⟩
        ·intro uu32 hS hN32
         refine wpq_split 46 (b := t29.1) (by kernel_rfl) (fun q63 => ?_) (fun q63 => ?_)
         ·have hS := cond_T q63 hS
          refine xB 1 [] [(1, vp bd8 0), (46, vb true), (47, vp bd8 0)] ?_
          obtain ⟨y64, hy64, hS⟩ := bindO_T hS
          refine xE (eC 0 (fun g' lr eb ln => c19 g' ⟨bd8, 0, none⟩ t29.2 A29_1_defs c29_1_defs A29_1_conds c29_1_conds (cells_lent' 0 bd8 0 (cBoard t29.2 A29_1_defs c29_1_defs A29_1_conds c29_1_conds) ln) ((f29_1_defs.mono g30.br).mono lr) (arrm_of_buf h29_1_conds eb (lentk 1 (by kernel_rfl) ln)) hy64)) ?_
          rintro _ g65 _ e66 ⟨_, rfl, A64_0, c64_0, k64_0, rfl, rfl, h64_0⟩
          have nh64_0 := h64_0.len
          refine xB 3 [] [(1, vp bd8 0), (51, vb ((((y64).length : Nat) : Int) == 0))] ?_
          refine xSel [some 1, some 2] ?_
          refine xSub [(1, vp bd8 0), (51, vb ((((y64).length : Nat) : Int) == 0))] ?_
          exact hN32 _ (Option.some.inj hS).symm _ _ _ e66 ⟨by kernel_rfl, by kernel_rfl⟩
         ·have hS := cond_F q63 hS
          refine xB 5 [] [(1, vp bd8 0), (51, vb false)] ?_
          refine xSub [(1, vp bd8 0), (51, vb false)] ?_
          exact hN32 _ (Option.some.inj hS).symm _ _ _ (Gh.le.refl _) ⟨by kernel_rfl, by kernel_rfl⟩
       ·intro uu29 hS hN29
        refine wpq_split 41 (b := t26.1) (by kernel_rfl) (fun q67 => ?_) (fun q67 => ?_)
        ·have hS := cond_T q67 hS
         refine xB 1 [] [(1, vp bd8 0), (41, vb true), (42, vp bd8 0)] ?_
         obtain ⟨y68, hy68, hS⟩ := bindO_T hS
         refine xE (eC 2 (fun g' lr eb ln => c18 g' bd8 t26.2 A26_1_defs c26_1_defs A26_1_conds c26_1_conds k26_1_conds (0 : Int) (by rw [eb]; exact f26_1_defs) (by rw [eb]; exact h26_1_conds) hy68)) ?_
         rintro _ g69 _ e70 ⟨_, rfl, A68_b_defs, c68_b_defs, A68_b_conds, c68_b_conds, k68_b_conds, rfl, rfl, f68_b_defs, h68_b_conds⟩
         have nf68_b_defs := f68_b_defs.len
         have nh68_b_conds := h68_b_conds.len
         refine xB 2 [] [(1, vp bd8 0), (45, vb (y68.2 == 0))] ?_
         refine xSub [(1, vp bd8 0), (45, vb (y68.2 == 0))] ?_
         exact hN29 _ (Option.some.inj hS).symm _ _ _ e70 ⟨A68_b_defs, c68_b_defs, A68_b_conds, c68_b_conds, k68_b_conds, by kernel_rfl, by kernel_rfl, f68_b_defs, h68_b_conds⟩
        ·have hS := cond_F q67 hS
         refine xB 4 [] [(1, vp bd8 0), (45, vb false)] ?_
         refine xSub [(1, vp bd8 0), (45, vb false)] ?_
         exact hN29 _ (Option.some.inj hS).symm _ _ _ (Gh.le.refl _) ⟨A26_1_defs, c26_1_defs, A26_1_conds, c26_1_conds, k26_1_conds, by kernel_rfl, by kernel_rfl, f26_1_defs, h26_1_conds⟩
      ·intro uu26 hS hN26
       refine wpq_split 36 (b := t23) (by kernel_rfl) (fun q71 => ?_) (fun q71 => ?_)
       ·have hS := cond_T q71 hS
        refine xB 1 [] [(1, vp bd8 0), (36, vb true), (37, vp bd8 0)] ?_
        have f9_1_defs := f9_1_defs.mono (e15.trans (e19.trans (e22.trans e25))).b
        have h9_1_conds := h9_1_conds.mono (e15.trans (e19.trans (e22.trans e25))).b
        obtain ⟨y72, hy72, hS⟩ := bindO_T hS
        refine xE (eC 2 (fun g' lr eb ln => c18 g' bd8 t9.2 A9_1_defs c9_1_defs A9_1_conds c9_1_conds k9_1_conds (2 : Int) (by rw [eb]; exact f9_1_defs) (by rw [eb]; exact h9_1_conds) hy72)) ?_
        rintro _ g73 _ e74 ⟨_, rfl, A72_b_defs, c72_b_defs, A72_b_conds, c72_b_conds, k72_b_conds, rfl, rfl, f72_b_defs, h72_b_conds⟩
        have nf72_b_defs := f72_b_defs.len
        have nh72_b_conds := h72_b_conds.len
        refine xB 2 [] [(1, vp bd8 0), (40, vb (y72.2 == 8))] ?_
        refine xSub [(1, vp bd8 0), (40, vb (y72.2 == 8))] ?_
        exact hN26 _ (Option.some.inj hS).symm _ _ _ e74 ⟨A72_b_defs, c72_b_defs, A72_b_conds, c72_b_conds, k72_b_conds, by kernel_rfl, by kernel_rfl, f72_b_defs, h72_b_conds⟩
       ·have hS := cond_F q71 hS
        refine xB 4 [] [(1, vp bd8 0), (40, vb false)] ?_
        have f9_1_defs := f9_1_defs.mono (e15.trans (e19.trans (e22.trans e25))).b
        have h9_1_conds := h9_1_conds.mono (e15.trans (e19.trans (e22.trans e25))).b
        refine xSub [(1, vp bd8 0), (40, vb false)] ?_
        exact hN26 _ (Option.some.inj hS).symm _ _ _ (Gh.le.refl _) ⟨A9_1_defs, c9_1_defs, A9_1_conds, c9_1_conds, k9_1_conds, by kernel_rfl, by kernel_rfl, f9_1_defs, h9_1_conds⟩
     ·intro uu23 hS hN23
      refine wpq_split 31 (b := t20) (by kernel_rfl) (fun q75 => ?_) (fun q75 => ?_)
      ·have hS := cond_T q75 hS
       refine xB 1 [] [(1, vp bd8 0), (31, vb true), (32, vp bd8 0)] ?_
       have f9_1_defs := f9_1_defs.mono (e15.trans (e19.trans e22)).b
       have h9_1_conds := h9_1_conds.mono (e15.trans (e19.trans e22)).b
       obtain ⟨y76, hy76, hS⟩ := bindO_T hS
       refine xE (eC 0 (fun g' lr eb ln => c21 g' ⟨bd8, 0, none⟩ t9.2 A9_1_defs c9_1_defs A9_1_conds c9_1_conds (cells_lent' 0 bd8 0 (cBoard t9.2 A9_1_defs c9_1_defs A9_1_conds c9_1_conds) ln) ((f9_1_defs.mono g21.br).mono lr) (arrm_of_buf h9_1_conds eb (lentk 1 (by kernel_rfl) ln)) hy76)) ?_
       rintro _ g77 _ e78 ⟨_, rfl, rfl, rfl⟩
       refine xB 2 [] [(1, vp bd8 0), (35, vb (y76 == 1))] ?_
       refine xSub [(1, vp bd8 0), (35, vb (y76 == 1))] ?_
       exact hN23 _ (Option.some.inj hS).symm _ _ _ e78 ⟨by kernel_rfl, by kernel_rfl⟩
      ·have hS := cond_F q75 hS
       refine xB 4 [] [(1, vp bd8 0), (35, vb false)] ?_
       refine xSub [(1, vp bd8 0), (35, vb false)] ?_
       exact hN23 _ (Option.some.inj hS).symm _ _ _ (Gh.le.refl _) ⟨by kernel_rfl, by kernel_rfl⟩
    ·intro uu20 hS hN20
     refine wpq_split 25 (b := y17) (by kernel_rfl) (fun q79 => ?_) (fun q79 => ?_)
     ·have hS := cond_T q79 hS
      refine xB 1 [] [(1, vp bd8 0), (25, vb true), (26, vp bd8 0)] ?_
      have f9_1_defs := f9_1_defs.mono (e15.trans e19).b
      have h9_1_conds := h9_1_conds.mono (e15.trans e19).b
      obtain ⟨y80, hy80, hS⟩ := bindO_T hS
      refine xE (eC 0 (fun g' lr eb ln => c19 g' ⟨bd8, 0, none⟩ t9.2 A9_1_defs c9_1_defs A9_1_conds c9_1_conds (cells_lent' 2 bd8 0 (cBoard t9.2 A9_1_defs c9_1_defs A9_1_conds c9_1_conds) ln) ((f9_1_defs.mono g18.br).mono lr) (arrm_of_buf h9_1_conds eb (lentk 3 (by kernel_rfl) ln)) hy80)) ?_
      rintro _ g81 _ e82 ⟨_, rfl, A80_0, c80_0, k80_0, rfl, rfl, h80_0⟩
      have nh80_0 := h80_0.len
      refine xE (eBs (T := (tyI .i64)) (p := g81.b) (et := 3) (xs := ([(0 : Int)] : List Int)) (reps_cons (c := [vi 0]) (show (tyI .i64).rep _ _ _ from rfl) reps_nil) (by simp)) ?_
      rintro _ _ _ - ⟨A83, c83, k83, rfl, rfl, rfl, h83⟩
      obtain ⟨y84, hy84, hS⟩ := bindO_T hS
      refine xE (eC 0 (fun g' lr eb ln => c32 g' (y80 : List Int) A80_0 c80_0 (([(0 : Int)] : List Int) : List Int) A83 c83 (arr_of_buf h80_0 (Psi.le_b eb) (lentk 1 (by kernel_rfl) ln)) (arr_of_buf h83 (Psi.le_b eb) (lentk 0 (by kernel_rfl) ln)) hy84)) ?_
      rintro _ g85 _ e86 ⟨_, rfl, rfl, rfl⟩
      refine xB 1 [] [(1, vp bd8 0), (30, vb y84)] ?_
      refine xSel [some 4, some 5] ?_
      refine xSub [(1, vp bd8 0), (30, vb y84)] ?_
      exact hN20 _ (Option.some.inj hS).symm _ _ _ (e82.trans e86) ⟨by kernel_rfl, by kernel_rfl⟩
     ·have hS := cond_F q79 hS
      refine xB 5 [] [(1, vp bd8 0), (30, vb false)] ?_
      refine xSel [some 2, some 3] ?_
      refine xSub [(1, vp bd8 0), (30, vb false)] ?_
      exact hN20 _ (Option.some.inj hS).symm _ _ _ (Gh.le.refl _) ⟨by kernel_rfl, by kernel_rfl⟩
  ·intro uu9 hS hN9
   refine wpq_split 16 (b := ((y4.2 != 0) || (Option.isNone (y4.1)))) (by kernel_rfl) (fun q87 => ?_) (fun q87 => ?_)
   ·have hS := cond_T q87 hS
    refine xB 4 [] [(1, vp bd8 0), (20, vb true)] ?_
    refine xSel [some 0, some 1] ?_
    refine xSub [(1, vp bd8 0), (20, vb true)] ?_
    exact hN9 _ (Option.some.inj hS).symm _ _ _ (Gh.le.refl _) ⟨Ad8_defs, cd8_defs, Ad8_conds, cd8_conds, k4_0_0, by kernel_rfl, by kernel_rfl, fd8_defs, hd8_conds⟩
   ·have hS := cond_F q87 hS
    have q87l := (or_false_ q87).1
    have q87r := (or_false_ q87).2
    have q87lp : y4.2 = 0 := eq_of_bne_false_ q87l
    refine xB 1 [] [(1, vp bd8 0), (16, vb false), (17, vp bd8 0)] ?_
    obtain ⟨y88, hy88, hS⟩ := bindO_T hS
    refine xE (eC 2 (fun g' lr eb ln => c17 g' bd8 d8 Ad8_defs cd8_defs Ad8_conds cd8_conds k4_0_0 (5 : Int) (2 : Int) (by rw [eb]; exact fd8_defs) (by rw [eb]; exact hd8_conds) hy88)) ?_
    rintro _ g89 _ e90 ⟨_, rfl, A88_b_defs, c88_b_defs, A88_b_conds, c88_b_conds, k88_b_conds, rfl, rfl, f88_b_defs, h88_b_conds⟩
    have nf88_b_defs := f88_b_defs.len
    have nh88_b_conds := h88_b_conds.len
    refine xB 2 [] [(1, vp bd8 0), (20, vb (y88.2 != 0))] ?_
    refine xSel [some 0, some 1] ?_
    refine xSub [(1, vp bd8 0), (20, vb (y88.2 != 0))] ?_
    exact hN9 _ (Option.some.inj hS).symm _ _ _ e90 ⟨A88_b_defs, c88_b_defs, A88_b_conds, c88_b_conds, k88_b_conds, by kernel_rfl, by kernel_rfl, f88_b_defs, h88_b_conds⟩

end Go.Proofs.Ytfhchendnfpbkaa
