/-
Walks, printed by wip/gen, with half of their indentation. Conditions: each theorem's own.
-/
import Derived.Test.YtfhchendnfpbkaaK8x1
namespace Go.Proofs.Ytfhchendnfpbkaa
set_option linter.unusedVariables false
set_option linter.unusedSimpArgs false
open Go.RowKit
def o55_L0 (b : RBoard) (s212 : (List UInt8) × Nat) : Option (Ctl ((List UInt8) × Nat) ((List UInt8))) :=
 (cond (decide (((s212.2 : Nat) : Int) < (((b.defs).length : Nat) : Int))) (grd (decide (s212.2 < (b.onset).length)) (letJ (τ := Nat) (cond (decide ((List.getD b.onset s212.2 0) > 0)) (1) (0)) fun t218 => (grd (decide (s212.2 < (b.acked).length)) (letJ (τ := Nat) (cond ((List.getD b.acked s212.2 false)) ((t218 + 2)) (t218)) fun t223 => (grd (decide (((s212.1).length + (([(u8 ((t223 : Nat) : Int))] : List UInt8)).length) * 1 ≤ 140737488355328)) (grd (decide (s212.2 < (b.onset).length)) (bindO (τ := (List UInt8)) (o65 ((List.getD b.onset s212.2 0) : Int)) fun y231 => (grd (decide ((((s212.1 ++ ([(u8 ((t223 : Nat) : Int))] : List UInt8))).length + (y231).length) * 1 ≤ 140737488355328)) (grd (decide (((s212.2 : Nat) : Int) + 1 ≤ 9223372036854775807)) (some (Ctl.go ((((s212.1 ++ ([(u8 ((t223 : Nat) : Int))] : List UInt8)) ++ y231) : List UInt8), (s212.2 + 1))))))))))))) (some (Ctl.done ((s212.1 : List UInt8)))))
def o55 (b : RBoard) : Option ((List UInt8)) :=
 (bindO (τ := (List UInt8)) (o65 (b.steps : Int)) fun y3 => (grd (decide (0 ≤ b.phase ∧ b.phase ≤ 255)) (grd (decide (((y3).length + (([(u8 b.phase)] : List UInt8)).length) * 1 ≤ 140737488355328)) (bindO (τ := (List UInt8)) (loopO (σ := (List UInt8) × Nat) (ρ := (List UInt8)) fuelN (o55_L0 b) (((y3 ++ ([(u8 b.phase)] : List UInt8)) : List UInt8), 0)) fun t207 => (some ((t207 : List UInt8)))))))
set_option maxRecDepth 100000 in
theorem c55 (g : Gh) (b : RBoard) (Ab_defs : Option Addr) (cb_defs : Nat) (Ab_onset : Option Addr) (cb_onset : Nat) (Ab_acked : Option Addr) (cb_acked : Nat) (fb_defs : Arr g.r tyAlertDef Ab_defs cb_defs b.defs) (fb_onset : Arr g.r (tyI .i64) Ab_onset cb_onset b.onset) (fb_acked : Arr g.r tyB Ab_acked cb_acked b.acked) {r : (List UInt8)} (hS : o55 b = some r) :
  Ctr Try.prog 55 [Value.agg #[vs Ab_defs b.defs cb_defs, vi b.steps, vy b.phase, vs Ab_onset b.onset cb_onset, vs Ab_acked b.acked cb_acked]] g [] (fun v ψ o => ∃ (Ar_0 : Option Addr) (cr_0 : Nat) (kr_0 : Option Bk), v = vs Ar_0 r cr_0 ∧ o = [kr_0] ∧ Buf ψ tyU8 5 (.slice Ar_0 (r).length cr_0) kr_0 r) := by
 unfold o55 at hS
 refine xFn Try.f55 (Try.f55.body.getD .skip) 48 ?_
 have nfb_defs := fb_defs.len
 have nfb_onset := fb_onset.len
 have nfb_acked := fb_acked.len
 refine xSq ?_
 refine xRg ?_
 refine xE eB ?_
 rintro _ _ _ - ⟨b1, rfl, rfl, rfl⟩
 refine xB 1 [] [(1, vp b1 0)] ?_
 refine xRe ?_
 refine wpq_then ?_
 refine xSq ?_
 refine xDr 0 [1, 4] [7] [some ⟨b1, 57, (cRBoard b Ab_defs cb_defs Ab_onset cb_onset Ab_acked cb_acked)⟩] 8 (fun RG => ?_) (fun _ _ _ _ _ h => h)
 refine xT 4 [0, 1, 3, 4] [(1, 0), (4, 0)] [some 0] [(1, vp b1 0), (7, vi b.steps), (10, vy b.phase)] RG (Psi.le.refl _) ?_
 obtain ⟨y3, hy3, hS⟩ := bindO_T hS
 obtain ⟨q6, hS⟩ := grd_T hS
 have q6p := of_decide_eq_true q6
 refine wpa_meet (fun g own sl => ∃ (A3_0 : Option Addr) (c3_0 : Nat) (k3_0 : Option Bk) (A7 : Option Addr) (c7 : Nat) (k7 : Option Bk), own = [k7, k3_0, some ⟨b1, 57, (cRBoard b Ab_defs cb_defs Ab_onset cb_onset Ab_acked cb_acked)⟩] ∧ sl = [(1, vp b1 0), (8, vs A3_0 y3 c3_0), (11, vs A7 ([(u8 b.phase)] : List UInt8) c7)] ∧ Buf g.b tyU8 5 (.slice A3_0 (y3).length c3_0) k3_0 y3 ∧ Buf g.b tyU8 5 (.slice A7 (([(u8 b.phase)] : List UInt8)).length c7) k7 ([(u8 b.phase)] : List UInt8)) 2 [true, true, true, true, true, true, false, false] ?_ (fun hD2 => ?_)
 ·rintro g203 _ _ e204 ⟨A3_0, c3_0, k3_0, A7, c7, k7, rfl, rfl, h3_0, h7⟩
  have nh3_0 := h3_0.len
  have nh7 := h7.len
  obtain ⟨nw205, hp205, hs205⟩ := h7.srcO (g := g203)
  obtain ⟨q206, hS⟩ := grd_T hS
  have q206p := of_decide_eq_true q206
  refine xO1 (lds := [1, 4]) 6 ?_
  refine xIe (lds := [1, 4]) e204.r (eApp (T := tyU8) (p := g203.b) (et := 5) (bytes := 1) (xs := (y3 : List UInt8)) (ys := (([(u8 b.phase)] : List UInt8) : List UInt8)) 1 h3_0 rfl (fun w hs => hs205 0 w _ hs (by kernel_rfl)) hp205 (by first | omega | (simp only [List.length_cons, List.length_nil] at *; omega)) (by first | omega | (simp only [List.length_cons, List.length_nil] at *; omega))) ?_
  rintro _ _ _ - ⟨A205, c205, k205, rfl, rfl, rfl, h205⟩
  refine kk [some 2] ?_
  have nh205 := h205.len
  have hz205 : ((y3 ++ ([(u8 b.phase)] : List UInt8)) : List UInt8).length = (y3).length + (([(u8 b.phase)] : List UInt8)).length := List.length_append
  refine xT 0 [7] [] [some 2] [(1, vp b1 0), (3, vs A205 (y3 ++ ([(u8 b.phase)] : List UInt8)) c205)] RG e204.r ?_
  refine xAe (lds := [1, 4]) ?_
  refine wpq_then ?_
  refine xSq ?_
  refine xSq ?_
  refine xRg ?_
  refine xB 4 [(1, 2)] [(1, vp b1 0), (3, vs A205 (y3 ++ ([(u8 b.phase)] : List UInt8)) c205), (15, vi (((b.defs).length : Nat) : Int)), (16, vi 0)] ?_
  refine xRe ?_
  refine wpq_then ?_
  refine xBindO hS (fun g own sl t207 => ∃ (A207_0 : Option Addr) (c207_0 : Nat) (k207_0 : Option Bk), own = [k207_0] ∧ sl = [(3, vs A207_0 t207 c207_0)] ∧ Buf g.b tyU8 5 (.slice A207_0 (t207).length c207_0) k207_0 t207) ?_ ?_
  ·rintro g208 _ _ t207 e209 ⟨A207_0, c207_0, k207_0, rfl, rfl, h207_0⟩ hS
   have nh207_0 := h207_0.len
   refine wpq_then ?_
   refine xSq ?_
   refine xRg ?_
   refine xB 2 [] [(2, vs A207_0 t207 c207_0)] ?_
   refine xRe ?_
   refine wpq_then ?_
   have eS := (Option.some.inj hS).symm
   subst eS
   exact xRet [some 0] [2] (e204.trans e209) ⟨A207_0, c207_0, k207_0, by kernel_rfl, by kernel_rfl, h207_0⟩ (fun _ _ h => h)
  ·intro uu207 hS hN207
   refine xBl 0 ?_
   refine xSel [some 2, some 1] ?_
   refine xSub [(1, vp b1 0), (3, vs A205 (y3 ++ ([(u8 b.phase)] : List UInt8)) c205), (15, vi (((b.defs).length : Nat) : Int)), (16, vi 0)] ?_
   refine xLo hS (fun g own sl s212 => ∃ (A212_0 : Option Addr) (c212_0 : Nat) (k212_0 : Option Bk), own = [some ⟨b1, 57, (cRBoard b Ab_defs cb_defs Ab_onset cb_onset Ab_acked cb_acked)⟩, k212_0] ∧ sl = [(1, vp b1 0), (3, vs A212_0 s212.1 c212_0), (15, vi (((b.defs).length : Nat) : Int)), (16, vi ((s212.2 : Nat) : Int))] ∧ Buf g.b tyU8 5 (.slice A212_0 (s212.1).length c212_0) k212_0 s212.1) ⟨A205, c205, k205, by kernel_rfl, by kernel_rfl, h205⟩ ?_
   rintro g213 _ _ s212 uu212 e214 ⟨A212_0, c212_0, k212_0, rfl, rfl, h212_0⟩ hS Qr212 hN212 hD212
   have nh212_0 := h212_0.len
   unfold o55_L0 at hS
   refine xSq ?_
   refine xRg ?_
   refine xB 1 [] [(1, vp b1 0), (3, vs A212_0 s212.1 c212_0), (15, vi (((b.defs).length : Nat) : Int)), (16, vi ((s212.2 : Nat) : Int)), (17, vb (decide (((s212.2 : Nat) : Int) < (((b.defs).length : Nat) : Int))))] ?_
   refine xRe ?_
   refine wpq_then ?_
   refine xSq ?_
   refine xCd (decide (((s212.2 : Nat) : Int) < (((b.defs).length : Nat) : Int))) (fun h215 => ?_) (fun h215 => ?_)
   ·have hS := cond_T h215 hS
    have h215p := of_decide_eq_true h215
    refine xSk ?_
    refine wpq_then ?_
    refine xSub [(1, vp b1 0), (3, vs A212_0 s212.1 c212_0), (15, vi (((b.defs).length : Nat) : Int)), (16, vi ((s212.2 : Nat) : Int))] ?_
    refine xSq ?_
    refine xBl 1 ?_
    refine xSq ?_
    refine xRg ?_
    refine xB 2 [] [(1, vp b1 0), (3, vs A212_0 s212.1 c212_0), (4, vi ((s212.2 : Nat) : Int)), (15, vi (((b.defs).length : Nat) : Int)), (16, vi ((s212.2 : Nat) : Int))] ?_
    refine xRe ?_
    refine wpq_then ?_
    refine xSq ?_
    refine xRg ?_
    refine xB 1 [] [(1, vp b1 0), (3, vs A212_0 s212.1 c212_0), (4, vi ((s212.2 : Nat) : Int)), (5, vy 0), (15, vi (((b.defs).length : Nat) : Int)), (16, vi ((s212.2 : Nat) : Int))] ?_
    refine xRe ?_
    refine wpq_then ?_
    refine xSq ?_
    refine xSq ?_
    refine xRg ?_
    have fb_onset := fb_onset.mono (e204.trans e214).r
    obtain ⟨q217, hS⟩ := grd_T hS
    have q217p := of_decide_eq_true q217
    obtain ⟨ad216, cs216, hA216, hr216, hc216⟩ := fb_onset.at_ (get_getD (d := 0) q217p)
    have hr216 : cs216 = [vi (List.getD b.onset s212.2 0)] := hr216
    subst hr216
    refine xB 3 [(1, 0)] [(1, vp b1 0), (3, vs A212_0 s212.1 c212_0), (4, vi ((s212.2 : Nat) : Int)), (5, vy 0), (15, vi (((b.defs).length : Nat) : Int)), (16, vi ((s212.2 : Nat) : Int)), (20, vs Ab_onset b.onset cb_onset), (21, vi ((s212.2 : Nat) : Int))] ?_
    refine xV (qIx s212.2 1 hA216 rfl q217p) ?_
    refine xV (qLdP (Addr.add ad216 (s212.2 * 1)) 0 hc216) ?_
    refine xB 1 [] [(1, vp b1 0), (3, vs A212_0 s212.1 c212_0), (4, vi ((s212.2 : Nat) : Int)), (5, vy 0), (15, vi (((b.defs).length : Nat) : Int)), (16, vi ((s212.2 : Nat) : Int)), (24, vb (decide ((List.getD b.onset s212.2 0) > 0)))] ?_
    refine xRe ?_
    refine wpq_then ?_
    refine xLetJ hS (fun g own sl t218 => own = [some ⟨b1, 57, (cRBoard b Ab_defs cb_defs Ab_onset cb_onset Ab_acked cb_acked)⟩, k212_0] ∧ sl = [(1, vp b1 0), (3, vs A212_0 s212.1 c212_0), (4, vi ((s212.2 : Nat) : Int)), (5, vy ((t218 : Nat) : Int)), (15, vi (((b.defs).length : Nat) : Int)), (16, vi ((s212.2 : Nat) : Int))] ∧ (0 ≤ t218 ∧ t218 ≤ 1)) ?_ ?_
    ·rintro g219 _ _ t218 e220 ⟨rfl, rfl, ⟨r218_0l, r218_0r⟩⟩ hS
     refine wpq_then ?_
     refine xSq ?_
     refine xSq ?_
     refine xRg ?_
     have fb_acked := fb_acked.mono (e204.trans (e214.trans e220)).r
     obtain ⟨q222, hS⟩ := grd_T hS
     have q222p := of_decide_eq_true q222
     obtain ⟨ad221, cs221, hA221, hr221, hc221⟩ := fb_acked.at_ (get_getD (d := false) q222p)
     have hr221 : cs221 = [vb (List.getD b.acked s212.2 false)] := hr221
     subst hr221
     refine xB 3 [(1, 0)] [(1, vp b1 0), (3, vs A212_0 s212.1 c212_0), (4, vi ((s212.2 : Nat) : Int)), (5, vy ((t218 : Nat) : Int)), (15, vi (((b.defs).length : Nat) : Int)), (16, vi ((s212.2 : Nat) : Int)), (28, vs Ab_acked b.acked cb_acked), (29, vi ((s212.2 : Nat) : Int))] ?_
     refine xV (qIx s212.2 1 hA221 rfl q222p) ?_
     refine xV (qLdP (Addr.add ad221 (s212.2 * 1)) 0 hc221) ?_
     refine xRe ?_
     refine wpq_then ?_
     refine xSub [(1, vp b1 0), (3, vs A212_0 s212.1 c212_0), (4, vi ((s212.2 : Nat) : Int)), (5, vy ((t218 : Nat) : Int)), (15, vi (((b.defs).length : Nat) : Int)), (16, vi ((s212.2 : Nat) : Int)), (31, vb (List.getD b.acked s212.2 false))] ?_
     refine xLetJ hS (fun g own sl t223 => own = [some ⟨b1, 57, (cRBoard b Ab_defs cb_defs Ab_onset cb_onset Ab_acked cb_acked)⟩, k212_0] ∧ sl = [(1, vp b1 0), (3, vs A212_0 s212.1 c212_0), (4, vi ((s212.2 : Nat) : Int)), (5, vy ((t223 : Nat) : Int)), (15, vi (((b.defs).length : Nat) : Int)), (16, vi ((s212.2 : Nat) : Int))] ∧ (0 ≤ t223 ∧ t223 ≤ 3)) ?_ ?_
     ·rintro g224 _ _ t223 e225 ⟨rfl, rfl, ⟨r223_0l, r223_0r⟩⟩ hS
      refine wpq_then ?_
      refine xSq ?_
      refine xRg ?_
      refine xB 2 [] [(1, vp b1 0), (3, vs A212_0 s212.1 c212_0), (4, vi ((s212.2 : Nat) : Int)), (15, vi (((b.defs).length : Nat) : Int)), (16, vi ((s212.2 : Nat) : Int)), (34, vs A212_0 s212.1 c212_0), (35, vy ((t223 : Nat) : Int))] ?_
      refine xE (eBs (T := tyU8) (p := g224.b) (et := 5) (xs := ([(u8 ((t223 : Nat) : Int))] : List UInt8)) (reps_cons (c := [vy ((t223 : Nat) : Int)]) (u8_rep (by omega)) reps_nil) (by simp)) ?_
      rintro _ _ _ - ⟨A226, c226, k226, rfl, rfl, rfl, h226⟩
      have h212_0 := h212_0.mono (e220.trans e225).b
      obtain ⟨nw227, hp227, hs227⟩ := h226.srcO (g := g224)
      obtain ⟨q228, hS⟩ := grd_T hS
      have q228p := of_decide_eq_true q228
      refine xE (eApp (T := tyU8) (p := g224.b) (et := 5) (bytes := 1) (xs := (s212.1 : List UInt8)) (ys := (([(u8 ((t223 : Nat) : Int))] : List UInt8) : List UInt8)) 2 h212_0 rfl (fun w hs => hs227 0 w _ hs (by kernel_rfl)) hp227 (by first | omega | (simp only [List.length_cons, List.length_nil] at *; omega)) (by first | omega | (simp only [List.length_cons, List.length_nil] at *; omega))) ?_
      rintro _ _ _ - ⟨A227, c227, k227, rfl, rfl, rfl, h227⟩
      have nh227 := h227.len
      have hz227 : ((s212.1 ++ ([(u8 ((t223 : Nat) : Int))] : List UInt8)) : List UInt8).length = (s212.1).length + (([(u8 ((t223 : Nat) : Int))] : List UInt8)).length := List.length_append
      refine xB 1 [] [(1, vp b1 0), (3, vs A227 (s212.1 ++ ([(u8 ((t223 : Nat) : Int))] : List UInt8)) c227), (4, vi ((s212.2 : Nat) : Int)), (15, vi (((b.defs).length : Nat) : Int)), (16, vi ((s212.2 : Nat) : Int))] ?_
      refine xRe ?_
      refine wpq_then ?_
      refine xRg ?_
      have fb_onset := fb_onset.mono (e220.trans e225).r
      obtain ⟨q230, hS⟩ := grd_T hS
      have q230p := of_decide_eq_true q230
      obtain ⟨ad229, cs229, hA229, hr229, hc229⟩ := fb_onset.at_ (get_getD (d := 0) q230p)
      have hr229 : cs229 = [vi (List.getD b.onset s212.2 0)] := hr229
      subst hr229
      refine xB 4 [(2, 1)] [(1, vp b1 0), (3, vs A227 (s212.1 ++ ([(u8 ((t223 : Nat) : Int))] : List UInt8)) c227), (15, vi (((b.defs).length : Nat) : Int)), (16, vi ((s212.2 : Nat) : Int)), (38, vs A227 (s212.1 ++ ([(u8 ((t223 : Nat) : Int))] : List UInt8)) c227), (40, vs Ab_onset b.onset cb_onset), (41, vi ((s212.2 : Nat) : Int))] ?_
      refine xV (qIx s212.2 1 hA229 rfl q230p) ?_
      refine xV (qLdP (Addr.add ad229 (s212.2 * 1)) 0 hc229) ?_
      obtain ⟨y231, hy231, hS⟩ := bindO_T hS
      refine xE (eC 0 (fun g' lr eb ln => c65 g' ((List.getD b.onset s212.2 0) : Int) hy231)) ?_
      rintro _ g232 _ e233 ⟨_, rfl, A231_0, c231_0, k231_0, rfl, rfl, h231_0⟩
      have nh231_0 := h231_0.len
      have h227 := h227.mono e233.b
      obtain ⟨nw234, hp234, hs234⟩ := h231_0.srcO (g := g232)
      obtain ⟨q235, hS⟩ := grd_T hS
      have q235p := of_decide_eq_true q235
      refine xE (eApp (T := tyU8) (p := g232.b) (et := 5) (bytes := 1) (xs := ((s212.1 ++ ([(u8 ((t223 : Nat) : Int))] : List UInt8)) : List UInt8)) (ys := (y231 : List UInt8)) 3 h227 rfl (fun w hs => hs234 0 w _ hs (by kernel_rfl)) hp234 (by first | omega | (simp only [List.length_cons, List.length_nil] at *; omega)) (by first | omega | (simp only [List.length_cons, List.length_nil] at *; omega))) ?_
      rintro _ _ _ - ⟨A234, c234, k234, rfl, rfl, rfl, h234⟩
      have nh234 := h234.len
      have hz234 : (((s212.1 ++ ([(u8 ((t223 : Nat) : Int))] : List UInt8)) ++ y231) : List UInt8).length = ((s212.1 ++ ([(u8 ((t223 : Nat) : Int))] : List UInt8))).length + (y231).length := List.length_append
      refine xB 1 [] [(1, vp b1 0), (3, vs A234 ((s212.1 ++ ([(u8 ((t223 : Nat) : Int))] : List UInt8)) ++ y231) c234), (15, vi (((b.defs).length : Nat) : Int)), (16, vi ((s212.2 : Nat) : Int))] ?_
      refine xRe ?_
      refine wpq_blockN ?_
      refine wpq_then ?_
      refine xRg ?_
      obtain ⟨q236, hS⟩ := grd_T hS
      have q236p := of_decide_eq_true q236
      refine xV (qAdd .i64 (((s212.2 : Nat) : Int)) (1) (wr64 (by omega))) ?_
      refine xB 1 [] [(1, vp b1 0), (3, vs A234 ((s212.1 ++ ([(u8 ((t223 : Nat) : Int))] : List UInt8)) ++ y231) c234), (15, vi (((b.defs).length : Nat) : Int)), (16, vi (((s212.2 : Nat) : Int) + 1))] ?_
      refine xRe ?_
      refine wpq_thenN ?_
      refine xSel [some 2, some 3] ?_
      refine xSub [(1, vp b1 0), (3, vs A234 ((s212.1 ++ ([(u8 ((t223 : Nat) : Int))] : List UInt8)) ++ y231) c234), (15, vi (((b.defs).length : Nat) : Int)), (16, vi (((s212.2 : Nat) : Int) + 1))] ?_
      have eS := (Option.some.inj hS).symm
      exact hN212 _ eS _ _ _ (e220.trans (e225.trans e233)) ⟨A234, c234, k234, by kernel_rfl, by kernel_rfl, h234⟩
     ·intro uu223 hS hN223
      refine xCd ((List.getD b.acked s212.2 false)) (fun h237 => ?_) (fun h237 => ?_)
      ·have hS := cond_T h237 hS
       refine xRg ?_
       refine xB 1 [] [(1, vp b1 0), (3, vs A212_0 s212.1 c212_0), (4, vi ((s212.2 : Nat) : Int)), (5, vy ((t218 : Nat) : Int)), (15, vi (((b.defs).length : Nat) : Int)), (16, vi ((s212.2 : Nat) : Int)), (32, vy ((t218 : Nat) : Int))] ?_
       refine xV (qAdd .u8 (((t218 : Nat) : Int)) (2) (wr_u8 (by omega))) ?_
       refine xB 1 [] [(1, vp b1 0), (3, vs A212_0 s212.1 c212_0), (4, vi ((s212.2 : Nat) : Int)), (5, vy (((t218 : Nat) : Int) + 2)), (15, vi (((b.defs).length : Nat) : Int)), (16, vi ((s212.2 : Nat) : Int))] ?_
       refine xRe ?_
       refine xSub [(1, vp b1 0), (3, vs A212_0 s212.1 c212_0), (4, vi ((s212.2 : Nat) : Int)), (5, vy (((t218 : Nat) : Int) + 2)), (15, vi (((b.defs).length : Nat) : Int)), (16, vi ((s212.2 : Nat) : Int))] ?_
       have eS := hS.symm
       exact hN223 _ eS _ _ _ (Gh.le.refl _) ⟨by kernel_rfl, by kernel_rfl, okI⟩
      ·have hS := cond_F h237 hS
       refine xSk ?_
       refine xSub [(1, vp b1 0), (3, vs A212_0 s212.1 c212_0), (4, vi ((s212.2 : Nat) : Int)), (5, vy ((t218 : Nat) : Int)), (15, vi (((b.defs).length : Nat) : Int)), (16, vi ((s212.2 : Nat) : Int))] ?_
       have eS := hS.symm
       exact hN223 _ eS _ _ _ (Gh.le.refl _) ⟨by kernel_rfl, by kernel_rfl, okI⟩
    ·intro uu218 hS hN218
     refine xCd (decide ((List.getD b.onset s212.2 0) > 0)) (fun h238 => ?_) (fun h238 => ?_)
     ·have hS := cond_T h238 hS
      have h238p := of_decide_eq_true h238
      refine xRg ?_
      refine xB 3 [] [(1, vp b1 0), (3, vs A212_0 s212.1 c212_0), (4, vi ((s212.2 : Nat) : Int)), (5, vy 1), (15, vi (((b.defs).length : Nat) : Int)), (16, vi ((s212.2 : Nat) : Int))] ?_
      refine xRe ?_
      refine xSub [(1, vp b1 0), (3, vs A212_0 s212.1 c212_0), (4, vi ((s212.2 : Nat) : Int)), (5, vy 1), (15, vi (((b.defs).length : Nat) : Int)), (16, vi ((s212.2 : Nat) : Int))] ?_
      have eS := hS.symm
      exact hN218 _ eS _ _ _ (Gh.le.refl _) ⟨by kernel_rfl, by kernel_rfl, okI⟩
     ·have hS := cond_F h238 hS
      have h238p := of_decide_eq_false h238
      refine xSk ?_
      refine xSub [(1, vp b1 0), (3, vs A212_0 s212.1 c212_0), (4, vi ((s212.2 : Nat) : Int)), (5, vy 0), (15, vi (((b.defs).length : Nat) : Int)), (16, vi ((s212.2 : Nat) : Int))] ?_
      have eS := hS.symm
      exact hN218 _ eS _ _ _ (Gh.le.refl _) ⟨by kernel_rfl, by kernel_rfl, okI⟩
   ·have hS := cond_F h215 hS
    have h215p := of_decide_eq_false h215
    refine xEx 0 ?_
    refine wpq_thenX ?_
    refine wpq_thenX ?_
    refine wpq_blockE ?_
    refine xSel [some 1] ?_
    refine xSub [(3, vs A212_0 s212.1 c212_0)] ?_
    have eS := (Option.some.inj hS).symm
    have eS := (hD212 _ eS).symm
    exact hN207 _ eS _ _ _ e214 ⟨A212_0, c212_0, k212_0, by kernel_rfl, by kernel_rfl, h212_0⟩
 ·refine xO2 (lds := [1, 4]) 2 5 ?_ ?_
  ·refine xIe (lds := [1, 4]) (Psi.le.refl _) (eC 0 (fun g' lr eb ln => c65 g' (b.steps : Int) hy3)) ?_
   rintro _ g240 _ e241 ⟨_, rfl, A3_0, c3_0, k3_0, rfl, rfl, h3_0⟩
   refine kk [some 1] ?_
   have nh3_0 := h3_0.len
   refine xO1 (lds := [1, 4]) 5 ?_
   refine xIe (lds := [1, 4]) e241.r (eBs (T := tyU8) (p := g240.b) (et := 5) (xs := ([(u8 b.phase)] : List UInt8)) (reps_cons (c := [vy b.phase]) (u8_rep (by omega)) reps_nil) (by simp)) ?_
   rintro _ _ _ - ⟨A243, c243, k243, rfl, rfl, rfl, h243⟩
   refine kk [some 2] ?_
   refine xSub [(1, vp b1 0), (8, vs A3_0 y3 c3_0), (11, vs A243 ([(u8 b.phase)] : List UInt8) c243)] ?_
   exact hD2 _ _ _ e241 ⟨A3_0, c3_0, k3_0, A243, c243, k243, by kernel_rfl, by kernel_rfl, h3_0, h243⟩
  ·refine xIe (lds := [1, 4]) (Psi.le.refl _) (eBs (T := tyU8) (p := g.b) (et := 5) (xs := ([(u8 b.phase)] : List UInt8)) (reps_cons (c := [vy b.phase]) (u8_rep (by omega)) reps_nil) (by simp)) ?_
   rintro _ _ _ - ⟨A245, c245, k245, rfl, rfl, rfl, h245⟩
   refine kk [some 1] ?_
   refine xO1 (lds := [1, 4]) 2 ?_
   refine xIe (lds := [1, 4]) (Psi.le.refl _) (eC 0 (fun g' lr eb ln => c65 g' (b.steps : Int) hy3)) ?_
   rintro _ g247 _ e248 ⟨_, rfl, A3_0, c3_0, k3_0, rfl, rfl, h3_0⟩
   refine kk [some 2] ?_
   have nh3_0 := h3_0.len
   refine xSel [some 1, some 0, some 2] ?_
   refine xSub [(1, vp b1 0), (8, vs A3_0 y3 c3_0), (11, vs A245 ([(u8 b.phase)] : List UInt8) c245)] ?_
   have h245 := h245.mono e248.b
   exact hD2 _ _ _ e248 ⟨A3_0, c3_0, k3_0, A245, c245, k245, by kernel_rfl, by kernel_rfl, h3_0, h245⟩

def o27 (b : Board) (w_ : RBoard) : Option (Bool) :=
 (bindO (τ := (List Int)) (o19 b) fun y2 => (bindO (τ := (List Int)) (o50 w_) fun y5 => (bindO (τ := Bool) (o32 (y2 : List Int) (y5 : List Int)) fun y8 => (bindO (τ := Bool) (cond (y8) (bindO (τ := (List Int)) (o23 b) fun y457 => (bindO (τ := (List Int)) (o51 w_) fun y460 => (bindO (τ := Bool) (o32 (y457 : List Int) (y460 : List Int)) fun y463 => (some (y463))))) (some (false))) fun t11 => (bindO (τ := Bool) (cond (t11) (bindO (τ := Int) (o21 b) fun y450 => (bindO (τ := Int) (o52 w_) fun y453 => (some (y450 == y453)))) (some (false))) fun t14 => (bindO (τ := Bool) (cond (t14) (bindO (τ := (List (List UInt8))) (o20 b) fun y440 => (bindO (τ := (List (List UInt8))) (o54 w_) fun y443 => (bindO (τ := Bool) (o53 (y440 : List (List UInt8)) (y443 : List (List UInt8))) fun y446 => (some (y446))))) (some (false))) fun t17 => (bindO (τ := Bool) (cond (t17) (bindO (τ := (List UInt8)) (o22 b) fun y24 => (bindO (τ := (List UInt8)) (o55 w_) fun y28 => (some (y24 == y28)))) (some (false))) fun t20 => (some ((t20))))))))))
set_option maxRecDepth 100000 in
theorem c27 (g : Gh) (a_b : Addr) (b : Board) (Ab_defs : Option Addr) (cb_defs : Nat) (Ab_conds : Option Addr) (cb_conds : Nat) (w_ : RBoard) (Aw__defs : Option Addr) (cw__defs : Nat) (Aw__onset : Option Addr) (cw__onset : Nat) (Aw__acked : Option Addr) (cw__acked : Nat) (hc_b : Cells g.r a_b (cBoard b Ab_defs cb_defs Ab_conds cb_conds)) (fb_defs : Arr g.r tyAlertDef Ab_defs cb_defs b.defs) (fb_conds : ArrM g.r g.b tyCnd Ab_conds cb_conds b.conds) (fw__defs : Arr g.r tyAlertDef Aw__defs cw__defs w_.defs) (fw__onset : Arr g.r (tyI .i64) Aw__onset cw__onset w_.onset) (fw__acked : Arr g.r tyB Aw__acked cw__acked w_.acked) {r : Bool} (hS : o27 b w_ = some r) :
  Ctr Try.prog 27 [Value.pointer (some a_b), Value.agg #[vs Aw__defs w_.defs cw__defs, vi w_.steps, vy w_.phase, vs Aw__onset w_.onset cw__onset, vs Aw__acked w_.acked cw__acked]] g [] (fun v ψ o => v = vb r ∧ o = []) := by
 unfold o27 at hS
 refine xFn Try.f27 (Try.f27.body.getD .skip) 40 ?_
 have nfb_defs := fb_defs.len
 have nfb_conds := fb_conds.len
 have nfw__defs := fw__defs.len
 have nfw__onset := fw__onset.len
 have nfw__acked := fw__acked.len
 refine xSq ?_
 refine xRg ?_
 refine xE eB ?_
 rintro _ _ _ - ⟨b1, rfl, rfl, rfl⟩
 refine xB 1 [] [(0, Value.pointer (some a_b)), (3, vp b1 0)] ?_
 refine xRe ?_
 refine wpq_then ?_
 refine xSq ?_
 refine xDr 0 [2, 8, 15, 22, 30] [35] [some ⟨b1, 57, (cRBoard w_ Aw__defs cw__defs Aw__onset cw__onset Aw__acked cw__acked)⟩] 36 (fun RG => ?_) (fun _ _ _ _ _ h => h)
 refine xT 34 [0, 2] [(2, 0)] [some 0] [(0, Value.pointer (some a_b)), (3, vp b1 0), (5, Value.pointer (some a_b)), (7, Value.agg #[vs Aw__defs w_.defs cw__defs, vi w_.steps, vy w_.phase, vs Aw__onset w_.onset cw__onset, vs Aw__acked w_.acked cw__acked])] RG (Psi.le.refl _) ?_
 obtain ⟨y2, hy2, hS⟩ := bindO_T hS
 refine xO1 (lds := [2, 8, 15, 22, 30]) 1 ?_
 refine xIe (lds := [2, 8, 15, 22, 30]) (Psi.le.refl _) (eC 0 (fun g' lr eb ln => c19 g' a_b b Ab_defs cb_defs Ab_conds cb_conds (hc_b.mono lr) (fb_defs.mono lr) (ArrM.lent fb_conds lr eb) hy2)) ?_
 rintro _ g3 _ e4 ⟨_, rfl, A2_0, c2_0, k2_0, rfl, rfl, h2_0⟩
 refine kk [some 1] ?_
 have nh2_0 := h2_0.len
 have Efw__defs := fw__defs
 have fw__defs := fw__defs.mono e4.r
 have Efw__onset := fw__onset
 have fw__onset := fw__onset.mono e4.r
 have Efw__acked := fw__acked
 have fw__acked := fw__acked.mono e4.r
 obtain ⟨y5, hy5, hS⟩ := bindO_T hS
 refine xO1 (lds := [2, 8, 15, 22, 30]) 3 ?_
 refine xIe (lds := [2, 8, 15, 22, 30]) e4.r (eC 0 (fun g' lr eb ln => c50 g' w_ Aw__defs cw__defs Aw__onset cw__onset Aw__acked cw__acked (fw__defs.mono lr) (fw__onset.mono lr) (fw__acked.mono lr) hy5)) ?_
 rintro _ g6 _ e7 ⟨_, rfl, A5_0, c5_0, k5_0, rfl, rfl, h5_0⟩
 refine kk [some 2] ?_
 have nh5_0 := h5_0.len
 have h2_0 := h2_0.mono e7.b
 obtain ⟨y8, hy8, hS⟩ := bindO_T hS
 refine xO1 (lds := [2, 8, 15, 22, 30]) 4 ?_
 refine xIe (lds := [2, 8, 15, 22, 30]) (e4.trans e7).r (eC 0 (fun g' lr eb ln => c32 g' (y2 : List Int) A2_0 c2_0 (y5 : List Int) A5_0 c5_0 (arr_of_buf h2_0 (Psi.le_b eb) (lentk 1 (by kernel_rfl) ln)) (arr_of_buf h5_0 (Psi.le_b eb) (lentk 0 (by kernel_rfl) ln)) hy8)) ?_
 rintro _ g9 _ e10 ⟨_, rfl, rfl, rfl⟩
 refine kk [some 2] ?_
 refine xT 30 [5] [] [some 2] [(0, Value.pointer (some a_b)), (3, vp b1 0), (10, vb y8)] RG (e4.trans (e7.trans e10)).r ?_
 refine xGJoA hS 24 [true, true, true, true, true, true, true, true, true, true, true, true, false, false, false, false, false, false, false, false, false, false, false, false, false, false, false, false, false, false, false, false, false, false, false, false] (fun g own sl t11 => own = [some ⟨b1, 57, (cRBoard w_ Aw__defs cw__defs Aw__onset cw__onset Aw__acked cw__acked)⟩] ∧ sl = [(0, Value.pointer (some a_b)), (3, vp b1 0), (16, vb t11)]) ?_ ?_
 ·rintro g12 _ _ t11 e13 ⟨rfl, rfl⟩ hS
  refine xT 23 [12] [] [some 0] [(0, Value.pointer (some a_b)), (3, vp b1 0), (17, vb t11)] RG (e4.trans (e7.trans (e10.trans e13))).r ?_
  refine xGJoA hS 17 [true, true, true, true, true, true, true, true, true, true, true, true, true, true, true, true, true, true, true, false, false, false, false, false, false, false, false, false, false, false, false, false, false, false, false, false] (fun g own sl t14 => own = [some ⟨b1, 57, (cRBoard w_ Aw__defs cw__defs Aw__onset cw__onset Aw__acked cw__acked)⟩] ∧ sl = [(0, Value.pointer (some a_b)), (3, vp b1 0), (23, vb t14)]) ?_ ?_
  ·rintro g15 _ _ t14 e16 ⟨rfl, rfl⟩ hS
   refine xT 16 [19] [] [some 0] [(0, Value.pointer (some a_b)), (3, vp b1 0), (24, vb t14)] RG (e4.trans (e7.trans (e10.trans (e13.trans e16)))).r ?_
   refine xGJoA hS 10 [true, true, true, true, true, true, true, true, true, true, true, true, true, true, true, true, true, true, true, true, true, true, true, true, true, true, false, false, false, false, false, false, false, false, false, false] (fun g own sl t17 => own = [some ⟨b1, 57, (cRBoard w_ Aw__defs cw__defs Aw__onset cw__onset Aw__acked cw__acked)⟩] ∧ sl = [(0, Value.pointer (some a_b)), (3, vp b1 0), (30, vb t17)]) ?_ ?_
   ·rintro g18 _ _ t17 e19 ⟨rfl, rfl⟩ hS
    refine xT 9 [26] [] [some 0] [(0, Value.pointer (some a_b)), (3, vp b1 0), (31, vb t17)] RG (e4.trans (e7.trans (e10.trans (e13.trans (e16.trans e19))))).r ?_
    refine xGJoA hS 1 [true, true, true, true, true, true, true, true, true, true, true, true, true, true, true, true, true, true, true, true, true, true, true, true, true, true, true, true, true, true, true, true, true, true, true, false] (fun g own sl t20 => own = [some ⟨b1, 57, (cRBoard w_ Aw__defs cw__defs Aw__onset cw__onset Aw__acked cw__acked)⟩] ∧ sl = [(39, vb t20)]) ?_ ?_
    ·rintro g21 _ _ t20 e22 ⟨rfl, rfl⟩ hS
     refine xT 0 [35] [] [some 0] [(4, vb t20)] RG (e4.trans (e7.trans (e10.trans (e13.trans (e16.trans (e19.trans e22)))))).r ?_
     refine xAe (lds := [2, 8, 15, 22, 30]) ?_
     refine wpq_then ?_
     have eS := (Option.some.inj hS).symm
     subst eS
     exact xRet [] [4] (e4.trans (e7.trans (e10.trans (e13.trans (e16.trans (e19.trans e22)))))) ⟨by kernel_rfl, by kernel_rfl⟩ (fun _ _ h => h)
    ·intro uu20 hS hN20
     refine wpq_split 31 (b := t17) (by kernel_rfl) (fun q23 => ?_) (fun q23 => ?_)
     ·have hS := cond_T q23 hS
      refine xT 7 [27, 30] [(30, 0)] [some 0] [(31, vb true), (32, Value.pointer (some a_b)), (35, Value.agg #[vs Aw__defs w_.defs cw__defs, vi w_.steps, vy w_.phase, vs Aw__onset w_.onset cw__onset, vs Aw__acked w_.acked cw__acked])] RG (e4.trans (e7.trans (e10.trans (e13.trans (e16.trans e19))))).r ?_
      have hc_b := hc_b.mono (e4.trans (e7.trans (e10.trans (e13.trans (e16.trans e19))))).r
      have fb_defs := fb_defs.mono (e4.trans (e7.trans (e10.trans (e13.trans (e16.trans e19))))).r
      have fb_conds := fb_conds.mono (e4.trans (e7.trans (e10.trans (e13.trans (e16.trans e19))))).r (e4.trans (e7.trans (e10.trans (e13.trans (e16.trans e19))))).b
      obtain ⟨y24, hy24, hS⟩ := bindO_T hS
      refine xO1 (lds := [2, 8, 15, 22, 30]) 28 ?_
      refine xIe (lds := [2, 8, 15, 22, 30]) (e4.trans (e7.trans (e10.trans (e13.trans (e16.trans e19))))).r (eC 0 (fun g' lr eb ln => c22 g' a_b b Ab_defs cb_defs Ab_conds cb_conds (hc_b.mono lr) (fb_defs.mono lr) (ArrM.lent fb_conds lr eb) hy24)) ?_
      rintro _ g25 _ e26 ⟨_, rfl, A24_0, c24_0, k24_0, rfl, rfl, h24_0⟩
      refine kk [some 1] ?_
      have nh24_0 := h24_0.len
      obtain ⟨y28, hy28, hS⟩ := bindO_T hS
      refine wpa_meet (fun g own sl => ∃ (k28_0 : Option Bk), own = [k28_0, k24_0, some ⟨b1, 57, (cRBoard w_ Aw__defs cw__defs Aw__onset cw__onset Aw__acked cw__acked)⟩] ∧ sl = [(31, vb true), (34, vt y24), (37, vt y28)]) 3 [true, true, true, true, true, true, true, true, true, true, true, true, true, true, true, true, true, true, true, true, true, true, true, true, true, true, true, true, true, true, true, true, true, false, false, false] ?_ (fun hD27 => ?_)
      ·rintro g228 _ _ e229 ⟨k28_0, rfl, rfl⟩
       refine xTp 33 RG (fun _ => (qEqS (y24) (y28))) ?_
       refine xT 1 [34] [] [some 2] [(39, vb (y24 == y28))] RG (e4.trans (e7.trans (e10.trans (e13.trans (e16.trans (e19.trans (e26.trans e229))))))).r ?_
       refine xSel [some 2] ?_
       refine xSub [(39, vb (y24 == y28))] ?_
       exact hN20 _ (Option.some.inj hS).symm _ _ _ (e26.trans e229) ⟨by kernel_rfl, by kernel_rfl⟩
      ·refine xO2 (lds := [2, 8, 15, 22, 30]) 29 31 ?_ ?_
       ·refine xIv (lds := [2, 8, 15, 22, 30]) (qStrB 0 h24_0) ?_
        have fw__defs := fw__defs.mono (e7.trans (e10.trans (e13.trans (e16.trans (e19.trans e26))))).r
        have fw__onset := fw__onset.mono (e7.trans (e10.trans (e13.trans (e16.trans (e19.trans e26))))).r
        have fw__acked := fw__acked.mono (e7.trans (e10.trans (e13.trans (e16.trans (e19.trans e26))))).r
        refine xO1 (lds := [2, 8, 15, 22, 30]) 31 ?_
        refine xIe (lds := [2, 8, 15, 22, 30]) (e4.trans (e7.trans (e10.trans (e13.trans (e16.trans (e19.trans e26)))))).r (eC 0 (fun g' lr eb ln => c55 g' w_ Aw__defs cw__defs Aw__onset cw__onset Aw__acked cw__acked (fw__defs.mono lr) (fw__onset.mono lr) (fw__acked.mono lr) hy28)) ?_
        rintro _ g231 _ e232 ⟨_, rfl, A28_0, c28_0, k28_0, rfl, rfl, h28_0⟩
        refine kk [some 2] ?_
        have nh28_0 := h28_0.len
        refine xO1 (lds := [2, 8, 15, 22, 30]) 32 ?_
        refine xIv (lds := [2, 8, 15, 22, 30]) (qStrB 0 h28_0) ?_
        refine xSub [(31, vb true), (34, vt y24), (37, vt y28)] ?_
        exact hD27 _ _ _ e232 ⟨k28_0, by kernel_rfl, by kernel_rfl⟩
       ·have fw__defs := fw__defs.mono (e7.trans (e10.trans (e13.trans (e16.trans (e19.trans e26))))).r
        have fw__onset := fw__onset.mono (e7.trans (e10.trans (e13.trans (e16.trans (e19.trans e26))))).r
        have fw__acked := fw__acked.mono (e7.trans (e10.trans (e13.trans (e16.trans (e19.trans e26))))).r
        refine xIe (lds := [2, 8, 15, 22, 30]) (e4.trans (e7.trans (e10.trans (e13.trans (e16.trans (e19.trans e26)))))).r (eC 0 (fun g' lr eb ln => c55 g' w_ Aw__defs cw__defs Aw__onset cw__onset Aw__acked cw__acked (fw__defs.mono lr) (fw__onset.mono lr) (fw__acked.mono lr) hy28)) ?_
        rintro _ g234 _ e235 ⟨_, rfl, A28_0, c28_0, k28_0, rfl, rfl, h28_0⟩
        refine kk [some 2] ?_
        have nh28_0 := h28_0.len
        refine xO2 (lds := [2, 8, 15, 22, 30]) 29 32 ?_ ?_
        ·have h24_0 := h24_0.mono e235.b
         refine xIv (lds := [2, 8, 15, 22, 30]) (qStrB 1 h24_0) ?_
         refine xO1 (lds := [2, 8, 15, 22, 30]) 32 ?_
         refine xIv (lds := [2, 8, 15, 22, 30]) (qStrB 0 h28_0) ?_
         refine xSub [(31, vb true), (34, vt y24), (37, vt y28)] ?_
         exact hD27 _ _ _ e235 ⟨k28_0, by kernel_rfl, by kernel_rfl⟩
        ·refine xIv (lds := [2, 8, 15, 22, 30]) (qStrB 0 h28_0) ?_
         have h24_0 := h24_0.mono e235.b
         refine xO1 (lds := [2, 8, 15, 22, 30]) 29 ?_
         refine xIv (lds := [2, 8, 15, 22, 30]) (qStrB 1 h24_0) ?_
         refine xSub [(31, vb true), (34, vt y24), (37, vt y28)] ?_
         exact hD27 _ _ _ e235 ⟨k28_0, by kernel_rfl, by kernel_rfl⟩
     ·have hS := cond_F q23 hS
      refine xT 7 [27, 30] [] [some 0] [(31, vb false), (32, undef), (35, undef)] RG (e4.trans (e7.trans (e10.trans (e13.trans (e16.trans e19))))).r ?_
      refine xO1 (lds := [2, 8, 15, 22, 30]) 28 ?_
      refine xIb (lds := [2, 8, 15, 22, 30]) [] ?_
      refine wpa_meet (fun g own sl => own = [some ⟨b1, 57, (cRBoard w_ Aw__defs cw__defs Aw__onset cw__onset Aw__acked cw__acked)⟩] ∧ sl = [(31, vb false), (34, undef), (37, undef)]) 3 [true, true, true, true, true, true, true, true, true, true, true, true, true, true, true, true, true, true, true, true, true, true, true, true, true, true, true, true, true, true, true, true, true, false, false, false] ?_ (fun hD236 => ?_)
      ·rintro g437 _ _ e438 ⟨rfl, rfl⟩
       refine xT 1 [33, 34] [] [some 0] [(39, vb false)] RG (e4.trans (e7.trans (e10.trans (e13.trans (e16.trans (e19.trans e438)))))).r ?_
       refine xSub [(39, vb false)] ?_
       exact hN20 _ (Option.some.inj hS).symm _ _ _ e438 ⟨by kernel_rfl, by kernel_rfl⟩
      ·refine xO2 (lds := [2, 8, 15, 22, 30]) 29 31 ?_ ?_
       ·refine xIb (lds := [2, 8, 15, 22, 30]) [] ?_
        refine xO1 (lds := [2, 8, 15, 22, 30]) 31 ?_
        refine xIb (lds := [2, 8, 15, 22, 30]) [] ?_
        refine xO1 (lds := [2, 8, 15, 22, 30]) 32 ?_
        refine xIb (lds := [2, 8, 15, 22, 30]) [] ?_
        refine xSub [(31, vb false), (34, undef), (37, undef)] ?_
        exact hD236 _ _ _ (Gh.le.refl _) ⟨by kernel_rfl, by kernel_rfl⟩
       ·refine xIb (lds := [2, 8, 15, 22, 30]) [] ?_
        refine xO2 (lds := [2, 8, 15, 22, 30]) 29 32 ?_ ?_
        ·refine xIb (lds := [2, 8, 15, 22, 30]) [] ?_
         refine xO1 (lds := [2, 8, 15, 22, 30]) 32 ?_
         refine xIb (lds := [2, 8, 15, 22, 30]) [] ?_
         refine xSub [(31, vb false), (34, undef), (37, undef)] ?_
         exact hD236 _ _ _ (Gh.le.refl _) ⟨by kernel_rfl, by kernel_rfl⟩
        ·refine xIb (lds := [2, 8, 15, 22, 30]) [] ?_
         refine xO1 (lds := [2, 8, 15, 22, 30]) 29 ?_
         refine xIb (lds := [2, 8, 15, 22, 30]) [] ?_
         refine xSub [(31, vb false), (34, undef), (37, undef)] ?_
         exact hD236 _ _ _ (Gh.le.refl _) ⟨by kernel_rfl, by kernel_rfl⟩
   ·intro uu17 hS hN17
    refine wpq_split 24 (b := t14) (by kernel_rfl) (fun q439 => ?_) (fun q439 => ?_)
    ·have hS := cond_T q439 hS
     refine xT 14 [20, 22] [(22, 0)] [some 0] [(0, Value.pointer (some a_b)), (3, vp b1 0), (24, vb true), (25, Value.pointer (some a_b)), (27, Value.agg #[vs Aw__defs w_.defs cw__defs, vi w_.steps, vy w_.phase, vs Aw__onset w_.onset cw__onset, vs Aw__acked w_.acked cw__acked])] RG (e4.trans (e7.trans (e10.trans (e13.trans e16)))).r ?_
     have Ehc_b := hc_b
     have hc_b := hc_b.mono (e4.trans (e7.trans (e10.trans (e13.trans e16)))).r
     have Efb_defs := fb_defs
     have fb_defs := fb_defs.mono (e4.trans (e7.trans (e10.trans (e13.trans e16)))).r
     have Efb_conds := fb_conds
     have fb_conds := fb_conds.mono (e4.trans (e7.trans (e10.trans (e13.trans e16)))).r (e4.trans (e7.trans (e10.trans (e13.trans e16)))).b
     obtain ⟨y440, hy440, hS⟩ := bindO_T hS
     refine xO1 (lds := [2, 8, 15, 22, 30]) 21 ?_
     refine xIe (lds := [2, 8, 15, 22, 30]) (e4.trans (e7.trans (e10.trans (e13.trans e16)))).r (eC 0 (fun g' lr eb ln => c20 g' a_b b Ab_defs cb_defs Ab_conds cb_conds (hc_b.mono lr) (fb_defs.mono lr) (ArrM.lent fb_conds lr eb) hy440)) ?_
     rintro _ g441 _ e442 ⟨_, rfl, A440_0, c440_0, k440_0, rfl, rfl, h440_0⟩
     refine kk [some 1] ?_
     have nh440_0 := h440_0.len
     have fw__defs := fw__defs.mono (e7.trans (e10.trans (e13.trans (e16.trans e442)))).r
     have fw__onset := fw__onset.mono (e7.trans (e10.trans (e13.trans (e16.trans e442)))).r
     have fw__acked := fw__acked.mono (e7.trans (e10.trans (e13.trans (e16.trans e442)))).r
     obtain ⟨y443, hy443, hS⟩ := bindO_T hS
     refine xO1 (lds := [2, 8, 15, 22, 30]) 23 ?_
     refine xIe (lds := [2, 8, 15, 22, 30]) (e4.trans (e7.trans (e10.trans (e13.trans (e16.trans e442))))).r (eC 0 (fun g' lr eb ln => c54 g' w_ Aw__defs cw__defs Aw__onset cw__onset Aw__acked cw__acked (fw__defs.mono lr) (fw__onset.mono lr) (fw__acked.mono lr) hy443)) ?_
     rintro _ g444 _ e445 ⟨_, rfl, A443_0, c443_0, k443_0, rfl, rfl, h443_0⟩
     refine kk [some 2] ?_
     have nh443_0 := h443_0.len
     have h440_0 := h440_0.mono e445.b
     obtain ⟨y446, hy446, hS⟩ := bindO_T hS
     refine xO1 (lds := [2, 8, 15, 22, 30]) 24 ?_
     refine xIe (lds := [2, 8, 15, 22, 30]) (e4.trans (e7.trans (e10.trans (e13.trans (e16.trans (e442.trans e445)))))).r (eC 0 (fun g' lr eb ln => c53 g' (y440 : List (List UInt8)) A440_0 c440_0 (y443 : List (List UInt8)) A443_0 c443_0 (arr_of_buf h440_0 (Psi.le_b eb) (lentk 1 (by kernel_rfl) ln)) (arr_of_buf h443_0 (Psi.le_b eb) (lentk 0 (by kernel_rfl) ln)) hy446)) ?_
     rintro _ g447 _ e448 ⟨_, rfl, rfl, rfl⟩
     refine kk [some 2] ?_
     refine xT 10 [25] [] [some 2] [(0, Value.pointer (some a_b)), (3, vp b1 0), (30, vb y446)] RG (e4.trans (e7.trans (e10.trans (e13.trans (e16.trans (e442.trans (e445.trans e448))))))).r ?_
     refine xSel [some 2] ?_
     refine xSub [(0, Value.pointer (some a_b)), (3, vp b1 0), (30, vb y446)] ?_
     exact hN17 _ (Option.some.inj hS).symm _ _ _ (e442.trans (e445.trans e448)) ⟨by kernel_rfl, by kernel_rfl⟩
    ·have hS := cond_F q439 hS
     refine xT 14 [20, 22] [] [some 0] [(0, Value.pointer (some a_b)), (3, vp b1 0), (24, vb false), (25, undef), (27, undef)] RG (e4.trans (e7.trans (e10.trans (e13.trans e16)))).r ?_
     refine xO1 (lds := [2, 8, 15, 22, 30]) 21 ?_
     refine xIb (lds := [2, 8, 15, 22, 30]) [] ?_
     refine xO1 (lds := [2, 8, 15, 22, 30]) 23 ?_
     refine xIb (lds := [2, 8, 15, 22, 30]) [] ?_
     refine xO1 (lds := [2, 8, 15, 22, 30]) 24 ?_
     refine xIb (lds := [2, 8, 15, 22, 30]) [] ?_
     refine xT 10 [25] [] [some 0] [(0, Value.pointer (some a_b)), (3, vp b1 0), (30, vb false)] RG (e4.trans (e7.trans (e10.trans (e13.trans e16)))).r ?_
     refine xSub [(0, Value.pointer (some a_b)), (3, vp b1 0), (30, vb false)] ?_
     exact hN17 _ (Option.some.inj hS).symm _ _ _ (Gh.le.refl _) ⟨by kernel_rfl, by kernel_rfl⟩
  ·intro uu14 hS hN14
   refine wpq_split 17 (b := t11) (by kernel_rfl) (fun q449 => ?_) (fun q449 => ?_)
   ·have hS := cond_T q449 hS
    refine xT 21 [13, 15] [(15, 0)] [some 0] [(0, Value.pointer (some a_b)), (3, vp b1 0), (17, vb true), (18, Value.pointer (some a_b)), (20, Value.agg #[vs Aw__defs w_.defs cw__defs, vi w_.steps, vy w_.phase, vs Aw__onset w_.onset cw__onset, vs Aw__acked w_.acked cw__acked])] RG (e4.trans (e7.trans (e10.trans e13))).r ?_
    have Ehc_b := hc_b
    have hc_b := hc_b.mono (e4.trans (e7.trans (e10.trans e13))).r
    have Efb_defs := fb_defs
    have fb_defs := fb_defs.mono (e4.trans (e7.trans (e10.trans e13))).r
    have Efb_conds := fb_conds
    have fb_conds := fb_conds.mono (e4.trans (e7.trans (e10.trans e13))).r (e4.trans (e7.trans (e10.trans e13))).b
    obtain ⟨y450, hy450, hS⟩ := bindO_T hS
    refine xO1 (lds := [2, 8, 15, 22, 30]) 14 ?_
    refine xIe (lds := [2, 8, 15, 22, 30]) (e4.trans (e7.trans (e10.trans e13))).r (eC 0 (fun g' lr eb ln => c21 g' a_b b Ab_defs cb_defs Ab_conds cb_conds (hc_b.mono lr) (fb_defs.mono lr) (ArrM.lent fb_conds lr eb) hy450)) ?_
    rintro _ g451 _ e452 ⟨_, rfl, rfl, rfl⟩
    refine kk [some 0] ?_
    have fw__defs := fw__defs.mono (e7.trans (e10.trans (e13.trans e452))).r
    have fw__onset := fw__onset.mono (e7.trans (e10.trans (e13.trans e452))).r
    have fw__acked := fw__acked.mono (e7.trans (e10.trans (e13.trans e452))).r
    obtain ⟨y453, hy453, hS⟩ := bindO_T hS
    refine xO1 (lds := [2, 8, 15, 22, 30]) 16 ?_
    refine xIe (lds := [2, 8, 15, 22, 30]) (e4.trans (e7.trans (e10.trans (e13.trans e452)))).r (eC 0 (fun g' lr eb ln => c52 g' w_ Aw__defs cw__defs Aw__onset cw__onset Aw__acked cw__acked (fw__defs.mono lr) (fw__onset.mono lr) (fw__acked.mono lr) hy453)) ?_
    rintro _ g454 _ e455 ⟨_, rfl, rfl, rfl⟩
    refine kk [some 0] ?_
    refine xT 17 [17, 18] [] [some 0] [(0, Value.pointer (some a_b)), (3, vp b1 0), (23, vb (y450 == y453))] RG (e4.trans (e7.trans (e10.trans (e13.trans (e452.trans e455))))).r ?_
    refine xSub [(0, Value.pointer (some a_b)), (3, vp b1 0), (23, vb (y450 == y453))] ?_
    exact hN14 _ (Option.some.inj hS).symm _ _ _ (e452.trans e455) ⟨by kernel_rfl, by kernel_rfl⟩
   ·have hS := cond_F q449 hS
    refine xT 21 [13, 15] [] [some 0] [(0, Value.pointer (some a_b)), (3, vp b1 0), (17, vb false), (18, undef), (20, undef)] RG (e4.trans (e7.trans (e10.trans e13))).r ?_
    refine xO1 (lds := [2, 8, 15, 22, 30]) 14 ?_
    refine xIb (lds := [2, 8, 15, 22, 30]) [] ?_
    refine xO1 (lds := [2, 8, 15, 22, 30]) 16 ?_
    refine xIb (lds := [2, 8, 15, 22, 30]) [] ?_
    refine xT 17 [17, 18] [] [some 0] [(0, Value.pointer (some a_b)), (3, vp b1 0), (23, vb false)] RG (e4.trans (e7.trans (e10.trans e13))).r ?_
    refine xSub [(0, Value.pointer (some a_b)), (3, vp b1 0), (23, vb false)] ?_
    exact hN14 _ (Option.some.inj hS).symm _ _ _ (Gh.le.refl _) ⟨by kernel_rfl, by kernel_rfl⟩
 ·intro uu11 hS hN11
  refine wpq_split 10 (b := y8) (by kernel_rfl) (fun q456 => ?_) (fun q456 => ?_)
  ·have hS := cond_T q456 hS
   refine xT 28 [6, 8] [(8, 0)] [some 2] [(0, Value.pointer (some a_b)), (3, vp b1 0), (10, vb true), (11, Value.pointer (some a_b)), (13, Value.agg #[vs Aw__defs w_.defs cw__defs, vi w_.steps, vy w_.phase, vs Aw__onset w_.onset cw__onset, vs Aw__acked w_.acked cw__acked])] RG (e4.trans (e7.trans e10)).r ?_
   have Ehc_b := hc_b
   have hc_b := hc_b.mono (e4.trans (e7.trans e10)).r
   have Efb_defs := fb_defs
   have fb_defs := fb_defs.mono (e4.trans (e7.trans e10)).r
   have Efb_conds := fb_conds
   have fb_conds := fb_conds.mono (e4.trans (e7.trans e10)).r (e4.trans (e7.trans e10)).b
   obtain ⟨y457, hy457, hS⟩ := bindO_T hS
   refine xO1 (lds := [2, 8, 15, 22, 30]) 7 ?_
   refine xIe (lds := [2, 8, 15, 22, 30]) (e4.trans (e7.trans e10)).r (eC 0 (fun g' lr eb ln => c23 g' a_b b Ab_defs cb_defs Ab_conds cb_conds (hc_b.mono lr) (fb_defs.mono lr) (ArrM.lent fb_conds lr eb) hy457)) ?_
   rintro _ g458 _ e459 ⟨_, rfl, A457_0, c457_0, k457_0, rfl, rfl, h457_0⟩
   refine kk [some 3] ?_
   have nh457_0 := h457_0.len
   have fw__defs := fw__defs.mono (e7.trans (e10.trans e459)).r
   have fw__onset := fw__onset.mono (e7.trans (e10.trans e459)).r
   have fw__acked := fw__acked.mono (e7.trans (e10.trans e459)).r
   obtain ⟨y460, hy460, hS⟩ := bindO_T hS
   refine xO1 (lds := [2, 8, 15, 22, 30]) 9 ?_
   refine xIe (lds := [2, 8, 15, 22, 30]) (e4.trans (e7.trans (e10.trans e459))).r (eC 0 (fun g' lr eb ln => c51 g' w_ Aw__defs cw__defs Aw__onset cw__onset Aw__acked cw__acked (fw__defs.mono lr) (fw__onset.mono lr) (fw__acked.mono lr) hy460)) ?_
   rintro _ g461 _ e462 ⟨_, rfl, A460_0, c460_0, k460_0, rfl, rfl, h460_0⟩
   refine kk [some 4] ?_
   have nh460_0 := h460_0.len
   have h457_0 := h457_0.mono e462.b
   obtain ⟨y463, hy463, hS⟩ := bindO_T hS
   refine xO1 (lds := [2, 8, 15, 22, 30]) 10 ?_
   refine xIe (lds := [2, 8, 15, 22, 30]) (e4.trans (e7.trans (e10.trans (e459.trans e462)))).r (eC 0 (fun g' lr eb ln => c32 g' (y457 : List Int) A457_0 c457_0 (y460 : List Int) A460_0 c460_0 (arr_of_buf h457_0 (Psi.le_b eb) (lentk 1 (by kernel_rfl) ln)) (arr_of_buf h460_0 (Psi.le_b eb) (lentk 0 (by kernel_rfl) ln)) hy463)) ?_
   rintro _ g464 _ e465 ⟨_, rfl, rfl, rfl⟩
   refine kk [some 4] ?_
   refine xT 24 [11] [] [some 4] [(0, Value.pointer (some a_b)), (3, vp b1 0), (16, vb y463)] RG (e4.trans (e7.trans (e10.trans (e459.trans (e462.trans e465))))).r ?_
   refine xSel [some 4] ?_
   refine xSub [(0, Value.pointer (some a_b)), (3, vp b1 0), (16, vb y463)] ?_
   exact hN11 _ (Option.some.inj hS).symm _ _ _ (e459.trans (e462.trans e465)) ⟨by kernel_rfl, by kernel_rfl⟩
  ·have hS := cond_F q456 hS
   refine xT 28 [6, 8] [] [some 2] [(0, Value.pointer (some a_b)), (3, vp b1 0), (10, vb false), (11, undef), (13, undef)] RG (e4.trans (e7.trans e10)).r ?_
   refine xO1 (lds := [2, 8, 15, 22, 30]) 7 ?_
   refine xIb (lds := [2, 8, 15, 22, 30]) [] ?_
   refine xO1 (lds := [2, 8, 15, 22, 30]) 9 ?_
   refine xIb (lds := [2, 8, 15, 22, 30]) [] ?_
   refine xO1 (lds := [2, 8, 15, 22, 30]) 10 ?_
   refine xIb (lds := [2, 8, 15, 22, 30]) [] ?_
   refine xT 24 [11] [] [some 2] [(0, Value.pointer (some a_b)), (3, vp b1 0), (16, vb false)] RG (e4.trans (e7.trans e10)).r ?_
   refine xSel [some 2] ?_
   refine xSub [(0, Value.pointer (some a_b)), (3, vp b1 0), (16, vb false)] ?_
   exact hN11 _ (Option.some.inj hS).symm _ _ _ (Gh.le.refl _) ⟨by kernel_rfl, by kernel_rfl⟩

def o8 (l : List AlertDef) (p : List UInt8) : Option (Bool) :=
 (bindO (τ := Bool) (o10) fun y1 => (cond ((!y1)) (some ((false))) (letJ (τ := (List AlertDef)) (o11 (l : List AlertDef)) fun y5 => (bindO (τ := (Option Board) × Int) (o25 (y5 : List AlertDef) ((List.take ((minI (((p).length : Nat) : Int) 180)).toNat p) : List UInt8)) fun y9 => (bindO (τ := RBoard × Int) (o26 (y5 : List AlertDef) ((List.take ((minI (((p).length : Nat) : Int) 180)).toNat p) : List UInt8)) fun y15 => (cond (((y9.2 != y15.2) || (y9.2 != 0))) (some ((((y9.2 == y15.2) && (Option.isNone (y9.1)))))) (bindO (τ := Board) (y9.1) fun d22 => (bindO (τ := Bool) (o27 d22 y15.1) fun y29 => (bindO (τ := Bool) (cond (y29) (bindO (τ := (List UInt8)) (o22 d22) fun y36 => (some (y36 == (List.take ((minI (((p).length : Nat) : Int) 180)).toNat p)))) (some (false))) fun t32 => (some ((t32))))))))))))
set_option maxRecDepth 100000 in
theorem c8 (g : Gh) (l : List AlertDef) (Al : Option Addr) (cl : Nat) (p : List UInt8) (Ap : Option Addr) (cp : Nat) (fl : Arr g.b tyAlertDef Al cl l) (fp : Arr g.r tyU8 Ap cp p) {r : Bool} (hS : o8 l p = some r) :
  Ctr Try.prog 8 [vs Al l cl, vs Ap p cp] g [] (fun v ψ o => v = vb r ∧ o = []) := by
 unfold o8 at hS
 refine xFn Try.f8 (Try.f8.body.getD .skip) 55 ?_
 have nfl := fl.len
 have nfp := fp.len
 refine xSq ?_
 refine xRg ?_
 refine xB 1 [] [(0, vs Al l cl), (1, vs Ap p cp)] ?_
 refine xRe ?_
 refine wpq_then ?_
 refine xSq ?_
 refine xSq ?_
 refine xRg ?_
 obtain ⟨y1, hy1, hS⟩ := bindO_T hS
 refine xE (eC 0 (fun g' lr eb ln => c10 g'  hy1)) ?_
 rintro _ g2 _ e3 ⟨_, rfl, rfl, rfl⟩
 refine xB 1 [] [(0, vs Al l cl), (1, vs Ap p cp), (10, vb (!y1))] ?_
 refine xRe ?_
 refine wpq_then ?_
 refine xCd ((!y1)) (fun h4 => ?_) (fun h4 => ?_)
 ·have hS := cond_T h4 hS
  have h4n := not_eq_true_ h4
  refine xSq ?_
  refine xRg ?_
  refine xB 1 [] [(4, vb false)] ?_
  refine xRe ?_
  refine wpq_then ?_
  have eS := (Option.some.inj hS).symm
  subst eS
  exact xRet [] [4] e3 ⟨by kernel_rfl, by kernel_rfl⟩ (fun _ _ h => h)
 ·have hS := cond_F h4 hS
  have h4n := not_eq_false_ h4
  refine xSk ?_
  refine wpq_then ?_
  refine xSub [(0, vs Al l cl), (1, vs Ap p cp)] ?_
  refine xSq ?_
  refine xRg ?_
  refine xB 1 [] [(0, vs Al l cl), (1, vs Ap p cp), (11, vs Al l cl)] ?_
  have fl := fl.mono e3.b
  obtain ⟨y5, hy5, hS⟩ := letJ_T hS
  refine xE (eC 0 (fun g' lr eb ln => c11 g' (l : List AlertDef) Al cl (by rw [eb]; exact fl) hy5)) ?_
  rintro _ g6 _ e7 ⟨_, rfl, A5_0, c5_0, k5_0, rfl, rfl, h5_0⟩
  have nh5_0 := h5_0.len
  refine xB 1 [] [(0, vs A5_0 y5 c5_0), (1, vs Ap p cp)] ?_
  refine xRe ?_
  refine wpq_then ?_
  refine xSq ?_
  refine xRg ?_
  have z1 := minI_spec (((p).length : Nat) : Int) 180
  have fp := fp.mono (e3.trans e7).r
  have ncapf8 := fp.cap
  have f8 : Arr g6.r tyU8 (offA Ap cp 0 1) (cp - 0) (List.take ((minI (((p).length : Nat) : Int) 180)).toNat p) := fp.cut_to ((minI (((p).length : Nat) : Int) 180)).toNat (by omega)
  have nf8 := f8.len
  have hlf8 : ((minI (((p).length : Nat) : Int) 180)).toNat - 0 = ((List.take ((minI (((p).length : Nat) : Int) 180)).toNat p)).length := by simp only [List.length_take, List.length_drop] <;> omega
  have hvf8 : ((((List.take ((minI (((p).length : Nat) : Int) 180)).toNat p)).length : Nat) : Int) = (minI (((p).length : Nat) : Int) 180) - 0 := by omega
  refine xB 4 [] [(0, vs A5_0 y5 c5_0), (1, vs Ap p cp), (13, vs Ap p cp), (16, vi (minI (((p).length : Nat) : Int) 180))] ?_
  refine xV (qSl (m := 1) (A := Ap) (len := (p).length) (c := cp) 0 ((minI (((p).length : Nat) : Int) 180)).toNat none (some (minI (((p).length : Nat) : Int) 180)) ((List.take ((minI (((p).length : Nat) : Int) 180)).toNat p)).length rfl (show _ = _ by omega) (by omega) (by omega) hlf8) ?_
  refine xB 1 [] [(0, vs A5_0 y5 c5_0), (1, vs (offA Ap cp 0 1) (List.take ((minI (((p).length : Nat) : Int) 180)).toNat p) (cp - 0))] ?_
  refine xRe ?_
  refine wpq_then ?_
  refine xSq ?_
  refine xRg ?_
  refine xB 2 [] [(0, vs A5_0 y5 c5_0), (1, vs (offA Ap cp 0 1) (List.take ((minI (((p).length : Nat) : Int) 180)).toNat p) (cp - 0)), (19, vs A5_0 y5 c5_0), (20, vs (offA Ap cp 0 1) (List.take ((minI (((p).length : Nat) : Int) 180)).toNat p) (cp - 0))] ?_
  obtain ⟨y9, hy9, hS⟩ := bindO_T hS
  refine xE (eC 0 (fun g' lr eb ln => c25 g' (y5 : List AlertDef) A5_0 c5_0 ((List.take ((minI (((p).length : Nat) : Int) 180)).toNat p) : List UInt8) (offA Ap cp 0 1) (cp - 0) (arrm_of_buf h5_0 eb (lentk 0 (by kernel_rfl) ln)) (f8.mono lr) hy9)) ?_
  rintro _ g10 _ e11 ⟨_, rfl, v9_0, k9_0, k9_0_0, rfl, rfl, hn9_0, hs9_0⟩
  refine xB 5 [] [(0, vs A5_0 y5 c5_0), (1, vs (offA Ap cp 0 1) (List.take ((minI (((p).length : Nat) : Int) 180)).toNat p) (cp - 0)), (5, v9_0), (6, vi y9.2)] ?_
  refine xRe ?_
  refine wpq_then ?_
  refine xSq ?_
  refine xRg ?_
  refine xB 2 [] [(1, vs (offA Ap cp 0 1) (List.take ((minI (((p).length : Nat) : Int) 180)).toNat p) (cp - 0)), (5, v9_0), (6, vi y9.2), (25, vs A5_0 y5 c5_0), (26, vs (offA Ap cp 0 1) (List.take ((minI (((p).length : Nat) : Int) 180)).toNat p) (cp - 0))] ?_
  have h5_0 := h5_0.mono e11.b
  refine wpq_freeze 2 (by kernel_rfl) h5_0 (fun g12 e13 f14 => ?_)
  have f8 := f8.mono (e11.trans e13).r
  obtain ⟨y15, hy15, hS⟩ := bindO_T hS
  refine xE (eC 0 (fun g' lr eb ln => c26 g' (y5 : List AlertDef) A5_0 c5_0 ((List.take ((minI (((p).length : Nat) : Int) 180)).toNat p) : List UInt8) (offA Ap cp 0 1) (cp - 0) (by rw [eb]; exact f14) (f8.mono lr) hy15)) ?_
  rintro _ g16 _ e17 ⟨_, rfl, A15_0_defs, c15_0_defs, A15_0_onset, c15_0_onset, k15_0_onset, A15_0_acked, c15_0_acked, k15_0_acked, rfl, rfl, f15_0_defs, h15_0_onset, h15_0_acked⟩
  have nf15_0_defs := f15_0_defs.len
  have nh15_0_onset := h15_0_onset.len
  have nh15_0_acked := h15_0_acked.len
  refine xB 3 [] [(1, vs (offA Ap cp 0 1) (List.take ((minI (((p).length : Nat) : Int) 180)).toNat p) (cp - 0)), (5, v9_0), (6, vi y9.2), (28, Value.agg #[vs A15_0_defs y15.1.defs c15_0_defs, vi y15.1.steps, vy y15.1.phase, vs A15_0_onset y15.1.onset c15_0_onset, vs A15_0_acked y15.1.acked c15_0_acked]), (29, vi y15.2)] ?_
  refine xE eB ?_
  rintro _ _ _ - ⟨b18, rfl, rfl, rfl⟩
  refine xBo 2 [(7, 0)] [some ⟨b18, 57, (cRBoard y15.1 A15_0_defs c15_0_defs A15_0_onset c15_0_onset A15_0_acked c15_0_acked)⟩, k15_0_onset, k15_0_acked, k9_0, k9_0_0, none] [(1, vs (offA Ap cp 0 1) (List.take ((minI (((p).length : Nat) : Int) 180)).toNat p) (cp - 0)), (5, v9_0), (6, vi y9.2), (7, vp b18 0), (8, vi y15.2)] ?_
  refine xRe ?_
  refine wpq_then ?_
  refine xSq ?_
  refine xSq ?_
  refine xRg ?_
  refine xB 4 [] [(1, vs (offA Ap cp 0 1) (List.take ((minI (((p).length : Nat) : Int) 180)).toNat p) (cp - 0)), (5, v9_0), (6, vi y9.2), (7, vp b18 0), (8, vi y15.2), (33, vb (y9.2 != y15.2))] ?_
  refine wpr_grp 7 [(1, vs (offA Ap cp 0 1) (List.take ((minI (((p).length : Nat) : Int) 180)).toNat p) (cp - 0)), (5, v9_0), (6, vi y9.2), (7, vp b18 0), (8, vi y15.2), (36, vb ((y9.2 != y15.2) || (y9.2 != 0)))] (fun hk3 => ?_) ?_
  ·refine wpq_split 33 (b := (y9.2 != y15.2)) (by kernel_rfl) (fun q19 => ?_) (fun q19 => ?_)
   ·have q19p : ¬ (y9.2 = y15.2) := ne_of_bne_ q19
    refine xB 3 [] [(1, vs (offA Ap cp 0 1) (List.take ((minI (((p).length : Nat) : Int) 180)).toNat p) (cp - 0)), (5, v9_0), (6, vi y9.2), (7, vp b18 0), (8, vi y15.2), (36, vb true)] ?_
    refine xSel [some 0, some 1, some 2, some 3, some 4, none] ?_
    refine wpq_re 36 (v := vb true) (Value.bool (((y9.2 != y15.2) || (y9.2 != 0)))) (by kernel_rfl) (re_or1 q19) ?_
    exact wpq_sub _ (by kernel_rfl) hk3
   ·have q19p : y9.2 = y15.2 := eq_of_bne_false_ q19
    refine xB 3 [] [(1, vs (offA Ap cp 0 1) (List.take ((minI (((p).length : Nat) : Int) 180)).toNat p) (cp - 0)), (5, v9_0), (6, vi y9.2), (7, vp b18 0), (8, vi y15.2), (36, vb (y9.2 != 0))] ?_
    refine xSel [some 0, some 1, some 2, some 3, some 4, none] ?_
    refine wpq_re 36 (v := vb (y9.2 != 0)) (Value.bool (((y9.2 != y15.2) || (y9.2 != 0)))) (by kernel_rfl) (re_or0 q19) ?_
    exact wpq_sub _ (by kernel_rfl) hk3
  ·refine xRe ?_
   refine wpq_then ?_
   refine xCd (((y9.2 != y15.2) || (y9.2 != 0))) (fun h20 => ?_) (fun h20 => ?_)
   ·have hS := cond_T h20 hS
    refine xSq ?_
    refine xRg ?_
    refine xB 4 [] [(5, v9_0), (40, vb (y9.2 == y15.2))] ?_
    refine wpr_grp 7 [(43, vb ((y9.2 == y15.2) && (Option.isNone (y9.1))))] (fun hk3 => ?_) ?_
    ·refine wpq_split 40 (b := (y9.2 == y15.2)) (by kernel_rfl) (fun q21 => ?_) (fun q21 => ?_)
     ·have q21p : y9.2 = y15.2 := eq_of_beq q21
      refine xB 1 [] [(40, vb true), (41, v9_0)] ?_
      refine xV (qPn hn9_0 (fun d h => by obtain ⟨_, _, _, _, _, _, h1, _⟩ := hs9_0 d h; exact ⟨_, h1⟩)) ?_
      refine xB 1 [] [(43, vb (Option.isNone (y9.1)))] ?_
      refine xSel [some 0, some 1, some 2, some 3, some 4, none] ?_
      refine wpq_re 43 (v := vb (Option.isNone (y9.1))) (Value.bool (((y9.2 == y15.2) && (Option.isNone (y9.1))))) (by kernel_rfl) (re_and1 q21) ?_
      exact wpq_sub _ (by kernel_rfl) hk3
     ·have q21p : ¬ (y9.2 = y15.2) := ne_of_beq_false_ q21
      refine xB 3 [] [(43, vb false)] ?_
      refine xSel [some 0, some 1, some 2, some 3, some 4, none] ?_
      refine wpq_re 43 (v := vb false) (Value.bool (((y9.2 == y15.2) && (Option.isNone (y9.1))))) (by kernel_rfl) (re_and0 q21) ?_
      exact wpq_sub _ (by kernel_rfl) hk3
    ·refine xB 1 [] [(4, vb ((y9.2 == y15.2) && (Option.isNone (y9.1))))] ?_
     refine xRe ?_
     refine wpq_then ?_
     have eS := (Option.some.inj hS).symm
     subst eS
     exact xRet [] [4] (e3.trans (e7.trans (e11.trans (e13.trans e17)))) ⟨by kernel_rfl, by kernel_rfl⟩ (fun _ _ h => h)
   ·have hS := cond_F h20 hS
    have h20l := (or_false_ h20).1
    have h20r := (or_false_ h20).2
    have h20lp : y9.2 = y15.2 := eq_of_bne_false_ h20l
    have h20rp : y9.2 = 0 := eq_of_bne_false_ h20r
    refine xSk ?_
    refine wpq_then ?_
    refine xSub [(1, vs (offA Ap cp 0 1) (List.take ((minI (((p).length : Nat) : Int) 180)).toNat p) (cp - 0)), (5, v9_0), (7, vp b18 0)] ?_
    refine xSq ?_
    refine xDr 0 [1, 8] [11] [some ⟨b18, 57, (cRBoard y15.1 A15_0_defs c15_0_defs A15_0_onset c15_0_onset A15_0_acked c15_0_acked)⟩] 12 (fun RG => ?_) (fun _ _ _ _ _ h => h)
    refine xT 10 [0, 1] [(1, 0)] [some 0] [(1, vs (offA Ap cp 0 1) (List.take ((minI (((p).length : Nat) : Int) 180)).toNat p) (cp - 0)), (5, v9_0), (44, v9_0), (45, Value.agg #[vs A15_0_defs y15.1.defs c15_0_defs, vi y15.1.steps, vy y15.1.phase, vs A15_0_onset y15.1.onset c15_0_onset, vs A15_0_acked y15.1.acked c15_0_acked])] RG (Psi.le.refl _) ?_
    obtain ⟨d22, ed22, hS⟩ := bindO_T hS
    obtain ⟨bd22, Ad22_defs, cd22_defs, Ad22_conds, cd22_conds, kd22_conds, rfl, rfl, rfl, fd22_defs, hd22_conds⟩ := hs9_0 d22 ed22
    have nfd22_defs := fd22_defs.len
    have nhd22_conds := hd22_conds.len
    refine wpq_freeze 1 (by kernel_rfl) h15_0_onset (fun g23 e24 f25 => ?_)
    have Eh15_0_acked := h15_0_acked
    have h15_0_acked := h15_0_acked.mono e24.b
    refine wpq_freeze 2 (by kernel_rfl) h15_0_acked (fun g26 e27 f28 => ?_)
    have Efd22_defs := fd22_defs.mono (e13.trans e17).b
    have fd22_defs := fd22_defs.mono (e13.trans (e17.trans (e24.trans e27))).b
    have Ehd22_conds := hd22_conds.mono (e13.trans e17).b
    have hd22_conds := hd22_conds.mono (e13.trans (e17.trans (e24.trans e27))).b
    have Ef15_0_defs := f15_0_defs
    have f15_0_defs := f15_0_defs.mono (e24.trans e27).b
    have f25 := f25.mono e27.b
    obtain ⟨y29, hy29, hS⟩ := bindO_T hS
    refine xO1 (lds := [1, 8]) 2 ?_
    refine xIe (lds := [1, 8]) (e24.trans e27).r (eC 0 (fun g' lr eb ln => c27 g' ⟨bd22, 0, none⟩ d22 Ad22_defs cd22_defs Ad22_conds cd22_conds y15.1 A15_0_defs c15_0_defs A15_0_onset c15_0_onset A15_0_acked c15_0_acked (cells_lent' 3 bd22 0 (cBoard d22 Ad22_defs cd22_defs Ad22_conds cd22_conds) ln) ((fd22_defs.mono g26.br).mono lr) (arrm_of_buf hd22_conds eb (lentk 4 (by kernel_rfl) ln)) ((f15_0_defs.mono g26.br).mono lr) ((f25.mono g26.br).mono lr) ((f28.mono g26.br).mono lr) hy29)) ?_
    rintro _ g30 _ e31 ⟨_, rfl, rfl, rfl⟩
    refine kk [some 0] ?_
    refine xT 8 [3] [] [some 0] [(1, vs (offA Ap cp 0 1) (List.take ((minI (((p).length : Nat) : Int) 180)).toNat p) (cp - 0)), (5, vp bd22 0), (47, vb y29)] RG (e24.trans (e27.trans e31)).r ?_
    refine xGJoA hS 1 [true, true, true, true, true, true, true, true, true, true, true, false] (fun g own sl t32 => own = [some ⟨b18, 57, (cRBoard y15.1 A15_0_defs c15_0_defs A15_0_onset c15_0_onset A15_0_acked c15_0_acked)⟩] ∧ sl = [(54, vb t32)]) ?_ ?_
    ·rintro g33 _ _ t32 e34 ⟨rfl, rfl⟩ hS
     refine xT 0 [11] [] [some 0] [(4, vb t32)] RG (e24.trans (e27.trans (e31.trans e34))).r ?_
     refine xAe (lds := [1, 8]) ?_
     refine wpq_then ?_
     have eS := (Option.some.inj hS).symm
     subst eS
     exact xRet [] [4] (e3.trans (e7.trans (e11.trans (e13.trans (e17.trans (e24.trans (e27.trans (e31.trans e34)))))))) ⟨by kernel_rfl, by kernel_rfl⟩ (fun _ _ h => h)
    ·intro uu32 hS hN32
     refine wpq_split 47 (b := y29) (by kernel_rfl) (fun q35 => ?_) (fun q35 => ?_)
     ·have hS := cond_T q35 hS
      have f8 := f8.mono e17.r
      refine xT 6 [4, 7] [] [some 0] [(47, vb true), (48, vp bd22 0), (51, vs (offA Ap cp 0 1) (List.take ((minI (((p).length : Nat) : Int) 180)).toNat p) (cp - 0))] RG (e24.trans (e27.trans e31)).r ?_
      refine xTv 8 [some 0] RG (e24.trans (e27.trans e31)).r (qStr f8) ?_
      have fd22_defs := fd22_defs.mono e31.b
      have hd22_conds := hd22_conds.mono e31.b
      obtain ⟨y36, hy36, hS⟩ := bindO_T hS
      refine xO1 (lds := [1, 8]) 5 ?_
      refine xIe (lds := [1, 8]) (e24.trans (e27.trans e31)).r (eC 0 (fun g' lr eb ln => c22 g' ⟨bd22, 0, none⟩ d22 Ad22_defs cd22_defs Ad22_conds cd22_conds (cells_lent' 3 bd22 0 (cBoard d22 Ad22_defs cd22_defs Ad22_conds cd22_conds) ln) ((fd22_defs.mono g30.br).mono lr) (arrm_of_buf hd22_conds eb (lentk 4 (by kernel_rfl) ln)) hy36)) ?_
      rintro _ g37 _ e38 ⟨_, rfl, A36_0, c36_0, k36_0, rfl, rfl, h36_0⟩
      refine kk [some 1] ?_
      have nh36_0 := h36_0.len
      refine xO1 (lds := [1, 8]) 6 ?_
      refine xIv (lds := [1, 8]) (qStrB 0 h36_0) ?_
      refine xTp 9 RG (fun _ => (qEqS (y36) ((List.take ((minI (((p).length : Nat) : Int) 180)).toNat p)))) ?_
      refine xT 1 [10] [] [some 1] [(54, vb (y36 == (List.take ((minI (((p).length : Nat) : Int) 180)).toNat p)))] RG (e24.trans (e27.trans (e31.trans e38))).r ?_
      refine xSel [some 1] ?_
      refine xSub [(54, vb (y36 == (List.take ((minI (((p).length : Nat) : Int) 180)).toNat p)))] ?_
      exact hN32 _ (Option.some.inj hS).symm _ _ _ e38 ⟨by kernel_rfl, by kernel_rfl⟩
     ·have hS := cond_F q35 hS
      refine xT 5 [4, 7, 8] [] [some 0] [(47, vb false), (48, undef), (52, undef)] RG (e24.trans (e27.trans e31)).r ?_
      refine xO1 (lds := [1, 8]) 5 ?_
      refine xIb (lds := [1, 8]) [] ?_
      refine xO1 (lds := [1, 8]) 6 ?_
      refine xIb (lds := [1, 8]) [] ?_
      refine xT 1 [9, 10] [] [some 0] [(54, vb false)] RG (e24.trans (e27.trans e31)).r ?_
      refine xSel [some 0] ?_
      refine xSub [(54, vb false)] ?_
      exact hN32 _ (Option.some.inj hS).symm _ _ _ (Gh.le.refl _) ⟨by kernel_rfl, by kernel_rfl⟩

end Go.Proofs.Ytfhchendnfpbkaa
