/-
Walks, printed by wip/gen. Conditions: each theorem's own.
-/
import Derived.Test.YtfhchendnfpbkaaK9x0
namespace Go.Proofs.Ytfhchendnfpbkaa
set_option linter.unusedVariables false
set_option linter.unusedSimpArgs false
open Go.RowKit
def o22_L0 (b : Board) (s211 : (List UInt8) × Nat) : Option (Ctl ((List UInt8) × Nat) ((List UInt8))) :=
 (cond (decide (((s211.2 : Nat) : Int) < (((b.conds).length : Nat) : Int))) (letJ (τ := Nat) (cond (((List.getD b.conds s211.2 default).onset != 0)) (1) (0)) fun t218 => (letJ (τ := Int) (cond ((List.getD b.conds s211.2 default).acked) ((lorK .u8 ((t218 : Nat) : Int) 2)) (((t218 : Nat) : Int))) fun t221 => (grd (decide (((s211.1).length + (([(u8 t221)] : List UInt8)).length) * 1 ≤ 140737488355328)) (bindO (τ := (List UInt8)) (o47 ((List.getD b.conds s211.2 default).onset : Int)) fun y227 => (grd (decide ((((s211.1 ++ ([(u8 t221)] : List UInt8))).length + (y227).length) * 1 ≤ 140737488355328)) (grd (decide (((s211.2 : Nat) : Int) + 1 ≤ 9223372036854775807)) (some (Ctl.go ((((s211.1 ++ ([(u8 t221)] : List UInt8)) ++ y227) : List UInt8), (s211.2 + 1)))))))))) (some (Ctl.done ((s211.1 : List UInt8)))))
def o22 (b : Board) : Option ((List UInt8)) :=
 (bindO (τ := (List UInt8)) (o47 (b.steps : Int)) fun y2 => (grd (decide (0 ≤ b.phase ∧ b.phase ≤ 255)) (grd (decide (((y2).length + (([(u8 b.phase)] : List UInt8)).length) * 1 ≤ 140737488355328)) (bindO (τ := (List UInt8)) (loopO (σ := (List UInt8) × Nat) (ρ := (List UInt8)) fuelN (o22_L0 b) (((y2 ++ ([(u8 b.phase)] : List UInt8)) : List UInt8), 0)) fun t206 => (some ((t206 : List UInt8)))))))
set_option maxRecDepth 100000 in
theorem c22 (g : Gh) (a_b : Addr) (b : Board) (Ab_defs : Option Addr) (cb_defs : Nat) (Ab_conds : Option Addr) (cb_conds : Nat) (hc_b : Cells g.r a_b (cBoard b Ab_defs cb_defs Ab_conds cb_conds)) (fb_defs : Arr g.r tyAlertDef Ab_defs cb_defs b.defs) (fb_conds : ArrM g.r g.b tyCnd Ab_conds cb_conds b.conds) {r : (List UInt8)} (hS : o22 b = some r) :
  Ctr Try.prog 22 [Value.pointer (some a_b)] g [] (fun v ψ o => ∃ (Ar_0 : Option Addr) (cr_0 : Nat) (kr_0 : Option Bk), v = vs Ar_0 r cr_0 ∧ o = [kr_0] ∧ Buf ψ tyU8 5 (.slice Ar_0 (r).length cr_0) kr_0 r) := by
 unfold o22 at hS
 refine xFn Try.f22 (Try.f22.body.getD .skip) 46 ?_
 have nfb_defs := fb_defs.len
 have nfb_conds := fb_conds.len
 refine xSq ?_
 refine xRg ?_
 refine xB 1 [] [(0, Value.pointer (some a_b))] ?_
 refine xRe ?_
 refine wpq_then ?_
 refine xSq ?_
 refine xSq ?_
 refine xRg ?_
 refine xB 2 [] [(0, Value.pointer (some a_b)), (8, vb false)] ?_
 refine xRe ?_
 refine wpq_then ?_
 refine xCf ?_
 refine xSk ?_
 refine wpq_then ?_
 refine xSub [(0, Value.pointer (some a_b))] ?_
 refine xSq ?_
 refine xDr 0 [3, 8] [11] [] 12 (fun RG => ?_) (fun _ _ _ _ _ h => h)
 refine xT 9 [0, 1, 2] [] [] [(0, Value.pointer (some a_b)), (11, Value.pointer (some (Addr.add a_b 1)))] RG (Psi.le.refl _) ?_
 refine xTv 3 [] RG (Psi.le.refl _) (qLdP a_b 1 hc_b) ?_
 refine xT 5 [5, 6, 7] [] [] [(0, Value.pointer (some a_b)), (12, vi b.steps), (16, Value.pointer (some (Addr.add a_b 2)))] RG (Psi.le.refl _) ?_
 refine xTv 8 [] RG (Psi.le.refl _) (qLdP a_b 2 hc_b) ?_
 obtain ⟨y2, hy2, hS⟩ := bindO_T hS
 obtain ⟨q5, hS⟩ := grd_T hS
 have q5p := of_decide_eq_true q5
 refine wpa_meet (fun g own sl => ∃ (A2_0 : Option Addr) (c2_0 : Nat) (k2_0 : Option Bk) (A6 : Option Addr) (c6 : Nat) (k6 : Option Bk), own = [k6, k2_0] ∧ sl = [(0, Value.pointer (some a_b)), (13, vs A2_0 y2 c2_0), (18, vs A6 ([(u8 b.phase)] : List UInt8) c6)] ∧ Buf g.b tyU8 5 (.slice A2_0 (y2).length c2_0) k2_0 y2 ∧ Buf g.b tyU8 5 (.slice A6 (([(u8 b.phase)] : List UInt8)).length c6) k6 ([(u8 b.phase)] : List UInt8)) 2 [true, true, true, true, true, true, true, true, true, true, false, false] ?_ (fun hD1 => ?_)
 ·rintro g202 _ _ e203 ⟨A2_0, c2_0, k2_0, A6, c6, k6, rfl, rfl, h2_0, h6⟩
  have nh2_0 := h2_0.len
  have nh6 := h6.len
  obtain ⟨nw204, hp204, hs204⟩ := h6.srcO (g := g202)
  obtain ⟨q205, hS⟩ := grd_T hS
  have q205p := of_decide_eq_true q205
  refine xO1 (lds := [3, 8]) 10 ?_
  refine xIe (lds := [3, 8]) e203.r (eApp (T := tyU8) (p := g202.b) (et := 5) (bytes := 1) (xs := (y2 : List UInt8)) (ys := (([(u8 b.phase)] : List UInt8) : List UInt8)) 1 h2_0 rfl (fun w hs => hs204 0 w _ hs (by kernel_rfl)) hp204 (by first | omega | (simp only [List.length_cons, List.length_nil] at *; omega)) (by first | omega | (simp only [List.length_cons, List.length_nil] at *; omega))) ?_
  rintro _ _ _ - ⟨A204, c204, k204, rfl, rfl, rfl, h204⟩
  refine kk [] ?_
  have nh204 := h204.len
  have hz204 : ((y2 ++ ([(u8 b.phase)] : List UInt8)) : List UInt8).length = (y2).length + (([(u8 b.phase)] : List UInt8)).length := List.length_append
  refine xT 0 [11] [] [] [(0, Value.pointer (some a_b)), (3, vs A204 (y2 ++ ([(u8 b.phase)] : List UInt8)) c204)] RG e203.r ?_
  refine xAe (lds := [3, 8]) ?_
  refine wpq_then ?_
  refine xSq ?_
  refine xSq ?_
  refine xRg ?_
  have hc_b := hc_b.mono e203.r
  refine xB 3 [] [(3, vs A204 (y2 ++ ([(u8 b.phase)] : List UInt8)) c204), (22, Value.pointer (some (Addr.add a_b 3)))] ?_
  refine xV (qLdP a_b 3 hc_b) ?_
  refine xB 2 [] [(3, vs A204 (y2 ++ ([(u8 b.phase)] : List UInt8)) c204), (23, vs Ab_conds b.conds cb_conds), (24, vi (((b.conds).length : Nat) : Int)), (25, vi 0)] ?_
  refine xRe ?_
  refine wpq_then ?_
  refine xBindO hS (fun g own sl t206 => ∃ (A206_0 : Option Addr) (c206_0 : Nat) (k206_0 : Option Bk), own = [k206_0] ∧ sl = [(3, vs A206_0 t206 c206_0)] ∧ Buf g.b tyU8 5 (.slice A206_0 (t206).length c206_0) k206_0 t206) ?_ ?_
  ·rintro g207 _ _ t206 e208 ⟨A206_0, c206_0, k206_0, rfl, rfl, h206_0⟩ hS
   have nh206_0 := h206_0.len
   refine wpq_then ?_
   refine xSq ?_
   refine xRg ?_
   refine xB 2 [] [(2, vs A206_0 t206 c206_0)] ?_
   refine xRe ?_
   refine wpq_then ?_
   have eS := (Option.some.inj hS).symm
   subst eS
   exact xRet [some 0] [2] (e203.trans e208) ⟨A206_0, c206_0, k206_0, by kernel_rfl, by kernel_rfl, h206_0⟩ (fun _ _ h => h)
  ·intro uu206 hS hN206
   refine xBl 0 ?_
   refine xSel [some 1] ?_
   refine xSub [(3, vs A204 (y2 ++ ([(u8 b.phase)] : List UInt8)) c204), (23, vs Ab_conds b.conds cb_conds), (24, vi (((b.conds).length : Nat) : Int)), (25, vi 0)] ?_
   refine xLo hS (fun g own sl s211 => ∃ (A211_0 : Option Addr) (c211_0 : Nat) (k211_0 : Option Bk), own = [k211_0] ∧ sl = [(3, vs A211_0 s211.1 c211_0), (23, vs Ab_conds b.conds cb_conds), (24, vi (((b.conds).length : Nat) : Int)), (25, vi ((s211.2 : Nat) : Int))] ∧ Buf g.b tyU8 5 (.slice A211_0 (s211.1).length c211_0) k211_0 s211.1) ⟨A204, c204, k204, by kernel_rfl, by kernel_rfl, h204⟩ ?_
   rintro g212 _ _ s211 uu211 e213 ⟨A211_0, c211_0, k211_0, rfl, rfl, h211_0⟩ hS Qr211 hN211 hD211
   have nh211_0 := h211_0.len
   unfold o22_L0 at hS
   refine xSq ?_
   refine xRg ?_
   refine xB 1 [] [(3, vs A211_0 s211.1 c211_0), (23, vs Ab_conds b.conds cb_conds), (24, vi (((b.conds).length : Nat) : Int)), (25, vi ((s211.2 : Nat) : Int)), (26, vb (decide (((s211.2 : Nat) : Int) < (((b.conds).length : Nat) : Int))))] ?_
   refine xRe ?_
   refine wpq_then ?_
   refine xSq ?_
   refine xCd (decide (((s211.2 : Nat) : Int) < (((b.conds).length : Nat) : Int))) (fun h214 => ?_) (fun h214 => ?_)
   ·have hS := cond_T h214 hS
    have h214p := of_decide_eq_true h214
    refine xSk ?_
    refine wpq_then ?_
    refine xSub [(3, vs A211_0 s211.1 c211_0), (23, vs Ab_conds b.conds cb_conds), (24, vi (((b.conds).length : Nat) : Int)), (25, vi ((s211.2 : Nat) : Int))] ?_
    refine xSq ?_
    refine xBl 1 ?_
    refine xSq ?_
    refine xRg ?_
    have fb_conds := fb_conds.mono (e203.trans e213).r (e203.trans e213).b
    have i216 : s211.2 < (b.conds).length := by omega
    obtain ⟨ad215, cs215, hA215, hr215, hc215⟩ := fb_conds.at_ (get_getD (d := default) i216)
    obtain ⟨rfl⟩ := hr215
    refine xV (qIx s211.2 2 hA215 rfl i216) ?_
    refine xV (qLdP (Addr.add ad215 (s211.2 * 2)) 0 hc215) ?_
    refine xE eB ?_
    rintro _ _ _ - ⟨b217, rfl, rfl, rfl⟩
    refine xBo 1 [(3, 0)] [some ⟨b217, 79, [vi ((List.getD b.conds s211.2 default).onset), vb ((List.getD b.conds s211.2 default).acked)]⟩, k211_0] [(3, vs A211_0 s211.1 c211_0), (5, vp b217 0), (23, vs Ab_conds b.conds cb_conds), (24, vi (((b.conds).length : Nat) : Int)), (25, vi ((s211.2 : Nat) : Int))] ?_
    refine xRe ?_
    refine wpq_then ?_
    refine xSq ?_
    refine xRg ?_
    refine xB 1 [] [(3, vs A211_0 s211.1 c211_0), (5, vp b217 0), (6, vy 0), (23, vs Ab_conds b.conds cb_conds), (24, vi (((b.conds).length : Nat) : Int)), (25, vi ((s211.2 : Nat) : Int))] ?_
    refine xRe ?_
    refine wpq_then ?_
    refine xSq ?_
    refine xSq ?_
    refine xRg ?_
    refine xB 3 [(1, 0)] [(3, vs A211_0 s211.1 c211_0), (5, vp b217 0), (6, vy 0), (23, vs Ab_conds b.conds cb_conds), (24, vi (((b.conds).length : Nat) : Int)), (25, vi ((s211.2 : Nat) : Int)), (31, vb ((List.getD b.conds s211.2 default).onset != 0))] ?_
    refine xRe ?_
    refine wpq_then ?_
    refine xLetJ hS (fun g own sl t218 => own = [some ⟨b217, 79, [vi ((List.getD b.conds s211.2 default).onset), vb ((List.getD b.conds s211.2 default).acked)]⟩, k211_0] ∧ sl = [(3, vs A211_0 s211.1 c211_0), (5, vp b217 0), (6, vy ((t218 : Nat) : Int)), (23, vs Ab_conds b.conds cb_conds), (24, vi (((b.conds).length : Nat) : Int)), (25, vi ((s211.2 : Nat) : Int))] ∧ (0 ≤ t218 ∧ t218 ≤ 1)) ?_ ?_
    ·rintro g219 _ _ t218 e220 ⟨rfl, rfl, ⟨r218_0l, r218_0r⟩⟩ hS
     refine wpq_then ?_
     refine xSq ?_
     refine xSq ?_
     refine xRg ?_
     refine xB 2 [(1, 0)] [(3, vs A211_0 s211.1 c211_0), (5, vp b217 0), (6, vy ((t218 : Nat) : Int)), (23, vs Ab_conds b.conds cb_conds), (24, vi (((b.conds).length : Nat) : Int)), (25, vi ((s211.2 : Nat) : Int)), (33, vb ((List.getD b.conds s211.2 default).acked))] ?_
     refine xRe ?_
     refine wpq_then ?_
     refine xLetJ hS (fun g own sl t221 => own = [some ⟨b217, 79, [vi ((List.getD b.conds s211.2 default).onset), vb ((List.getD b.conds s211.2 default).acked)]⟩, k211_0] ∧ sl = [(3, vs A211_0 s211.1 c211_0), (5, vp b217 0), (6, vy t221), (23, vs Ab_conds b.conds cb_conds), (24, vi (((b.conds).length : Nat) : Int)), (25, vi ((s211.2 : Nat) : Int))] ∧ (0 ≤ t221 ∧ t221 ≤ 255)) ?_ ?_
     ·rintro g222 _ _ t221 e223 ⟨rfl, rfl, ⟨r221_0l, r221_0r⟩⟩ hS
      refine wpq_then ?_
      refine xDr 0 [5] [8] [some ⟨b217, 79, [vi ((List.getD b.conds s211.2 default).onset), vb ((List.getD b.conds s211.2 default).acked)]⟩] 9 (fun RG => ?_) (fun _ _ _ _ _ h => h)
      refine xT 5 [0, 1, 4, 5] [(5, 0)] [some 0] [(3, vs A211_0 s211.1 c211_0), (23, vs Ab_conds b.conds cb_conds), (24, vi (((b.conds).length : Nat) : Int)), (25, vi ((s211.2 : Nat) : Int)), (36, vs A211_0 s211.1 c211_0), (37, vy t221), (41, vi ((List.getD b.conds s211.2 default).onset))] RG (Psi.le.refl _) ?_
      refine xO1 (lds := [5]) 2 ?_
      refine xIe (lds := [5]) (Psi.le.refl _) (eBs (T := tyU8) (p := g222.b) (et := 5) (xs := ([(u8 t221)] : List UInt8)) (reps_cons (c := [vy t221]) (u8_rep (by omega)) reps_nil) (by simp)) ?_
      rintro _ _ _ - ⟨A224, c224, k224, rfl, rfl, rfl, h224⟩
      refine kk [some 1] ?_
      have h211_0 := h211_0.mono (e220.trans e223).b
      obtain ⟨nw225, hp225, hs225⟩ := h224.srcO (g := g222)
      obtain ⟨q226, hS⟩ := grd_T hS
      have q226p := of_decide_eq_true q226
      refine xO1 (lds := [5]) 3 ?_
      refine xIe (lds := [5]) (Psi.le.refl _) (eApp (T := tyU8) (p := g222.b) (et := 5) (bytes := 1) (xs := (s211.1 : List UInt8)) (ys := (([(u8 t221)] : List UInt8) : List UInt8)) 2 h211_0 rfl (fun w hs => hs225 0 w _ hs (by kernel_rfl)) hp225 (by first | omega | (simp only [List.length_cons, List.length_nil] at *; omega)) (by first | omega | (simp only [List.length_cons, List.length_nil] at *; omega))) ?_
      rintro _ _ _ - ⟨A225, c225, k225, rfl, rfl, rfl, h225⟩
      refine kk [some 1] ?_
      have nh225 := h225.len
      have hz225 : ((s211.1 ++ ([(u8 t221)] : List UInt8)) : List UInt8).length = (s211.1).length + (([(u8 t221)] : List UInt8)).length := List.length_append
      obtain ⟨y227, hy227, hS⟩ := bindO_T hS
      refine xO1 (lds := [5]) 6 ?_
      refine xIe (lds := [5]) (Psi.le.refl _) (eC 0 (fun g' lr eb ln => c47 g' ((List.getD b.conds s211.2 default).onset : Int) hy227)) ?_
      rintro _ g228 _ e229 ⟨_, rfl, A227_0, c227_0, k227_0, rfl, rfl, h227_0⟩
      refine kk [some 2] ?_
      have nh227_0 := h227_0.len
      have h225 := h225.mono e229.b
      obtain ⟨nw230, hp230, hs230⟩ := h227_0.srcO (g := g228)
      obtain ⟨q231, hS⟩ := grd_T hS
      have q231p := of_decide_eq_true q231
      refine xO1 (lds := [5]) 7 ?_
      refine xIe (lds := [5]) e229.r (eApp (T := tyU8) (p := g228.b) (et := 5) (bytes := 1) (xs := ((s211.1 ++ ([(u8 t221)] : List UInt8)) : List UInt8)) (ys := (y227 : List UInt8)) 3 h225 rfl (fun w hs => hs230 0 w _ hs (by kernel_rfl)) hp230 (by first | omega | (simp only [List.length_cons, List.length_nil] at *; omega)) (by first | omega | (simp only [List.length_cons, List.length_nil] at *; omega))) ?_
      rintro _ _ _ - ⟨A230, c230, k230, rfl, rfl, rfl, h230⟩
      refine kk [some 2] ?_
      have nh230 := h230.len
      have hz230 : (((s211.1 ++ ([(u8 t221)] : List UInt8)) ++ y227) : List UInt8).length = ((s211.1 ++ ([(u8 t221)] : List UInt8))).length + (y227).length := List.length_append
      refine xT 0 [8] [] [some 2] [(3, vs A230 ((s211.1 ++ ([(u8 t221)] : List UInt8)) ++ y227) c230), (23, vs Ab_conds b.conds cb_conds), (24, vi (((b.conds).length : Nat) : Int)), (25, vi ((s211.2 : Nat) : Int))] RG e229.r ?_
      refine xAe (lds := [5]) ?_
      refine wpq_blockN ?_
      refine wpq_then ?_
      refine xRg ?_
      obtain ⟨q232, hS⟩ := grd_T hS
      have q232p := of_decide_eq_true q232
      refine xV (qAdd .i64 (((s211.2 : Nat) : Int)) (1) (wr64 (by omega))) ?_
      refine xB 1 [] [(3, vs A230 ((s211.1 ++ ([(u8 t221)] : List UInt8)) ++ y227) c230), (23, vs Ab_conds b.conds cb_conds), (24, vi (((b.conds).length : Nat) : Int)), (25, vi (((s211.2 : Nat) : Int) + 1))] ?_
      refine xRe ?_
      refine wpq_thenN ?_
      refine xSel [some 3] ?_
      refine xSub [(3, vs A230 ((s211.1 ++ ([(u8 t221)] : List UInt8)) ++ y227) c230), (23, vs Ab_conds b.conds cb_conds), (24, vi (((b.conds).length : Nat) : Int)), (25, vi (((s211.2 : Nat) : Int) + 1))] ?_
      have eS := (Option.some.inj hS).symm
      exact hN211 _ eS _ _ _ (e220.trans (e223.trans e229)) ⟨A230, c230, k230, by kernel_rfl, by kernel_rfl, h230⟩
     ·intro uu221 hS hN221
      refine xCd ((List.getD b.conds s211.2 default).acked) (fun h233 => ?_) (fun h233 => ?_)
      ·have hS := cond_T h233 hS
       refine xRg ?_
       refine xB 3 [] [(3, vs A211_0 s211.1 c211_0), (5, vp b217 0), (6, vy (lorK .u8 ((t218 : Nat) : Int) 2)), (23, vs Ab_conds b.conds cb_conds), (24, vi (((b.conds).length : Nat) : Int)), (25, vi ((s211.2 : Nat) : Int))] ?_
       refine xRe ?_
       refine xSub [(3, vs A211_0 s211.1 c211_0), (5, vp b217 0), (6, vy (lorK .u8 ((t218 : Nat) : Int) 2)), (23, vs Ab_conds b.conds cb_conds), (24, vi (((b.conds).length : Nat) : Int)), (25, vi ((s211.2 : Nat) : Int))] ?_
       have eS := hS.symm
       exact hN221 _ eS _ _ _ (Gh.le.refl _) ⟨by kernel_rfl, by kernel_rfl, okI⟩
      ·have hS := cond_F h233 hS
       refine xSk ?_
       refine xSub [(3, vs A211_0 s211.1 c211_0), (5, vp b217 0), (6, vy ((t218 : Nat) : Int)), (23, vs Ab_conds b.conds cb_conds), (24, vi (((b.conds).length : Nat) : Int)), (25, vi ((s211.2 : Nat) : Int))] ?_
       have eS := hS.symm
       exact hN221 _ eS _ _ _ (Gh.le.refl _) ⟨by kernel_rfl, by kernel_rfl, okI⟩
    ·intro uu218 hS hN218
     refine xCd (((List.getD b.conds s211.2 default).onset != 0)) (fun h234 => ?_) (fun h234 => ?_)
     ·have hS := cond_T h234 hS
      have h234p : ¬ ((List.getD b.conds s211.2 default).onset = 0) := ne_of_bne_ h234
      refine xRg ?_
      refine xB 1 [] [(3, vs A211_0 s211.1 c211_0), (5, vp b217 0), (6, vy 1), (23, vs Ab_conds b.conds cb_conds), (24, vi (((b.conds).length : Nat) : Int)), (25, vi ((s211.2 : Nat) : Int))] ?_
      refine xRe ?_
      refine xSub [(3, vs A211_0 s211.1 c211_0), (5, vp b217 0), (6, vy 1), (23, vs Ab_conds b.conds cb_conds), (24, vi (((b.conds).length : Nat) : Int)), (25, vi ((s211.2 : Nat) : Int))] ?_
      have eS := hS.symm
      exact hN218 _ eS _ _ _ (Gh.le.refl _) ⟨by kernel_rfl, by kernel_rfl, okI⟩
     ·have hS := cond_F h234 hS
      have h234p : (List.getD b.conds s211.2 default).onset = 0 := eq_of_bne_false_ h234
      refine xSk ?_
      refine xSub [(3, vs A211_0 s211.1 c211_0), (5, vp b217 0), (6, vy 0), (23, vs Ab_conds b.conds cb_conds), (24, vi (((b.conds).length : Nat) : Int)), (25, vi ((s211.2 : Nat) : Int))] ?_
      have eS := hS.symm
      exact hN218 _ eS _ _ _ (Gh.le.refl _) ⟨by kernel_rfl, by kernel_rfl, okI⟩
   ·have hS := cond_F h214 hS
    have h214p := of_decide_eq_false h214
    refine xEx 0 ?_
    refine wpq_thenX ?_
    refine wpq_thenX ?_
    refine wpq_blockE ?_
    refine xSub [(3, vs A211_0 s211.1 c211_0)] ?_
    have eS := (Option.some.inj hS).symm
    have eS := (hD211 _ eS).symm
    exact hN206 _ eS _ _ _ e213 ⟨A211_0, c211_0, k211_0, by kernel_rfl, by kernel_rfl, h211_0⟩
 ·refine xO2 (lds := [3, 8]) 4 9 ?_ ?_
  ·refine xIe (lds := [3, 8]) (Psi.le.refl _) (eC 0 (fun g' lr eb ln => c47 g' (b.steps : Int) hy2)) ?_
   rintro _ g236 _ e237 ⟨_, rfl, A2_0, c2_0, k2_0, rfl, rfl, h2_0⟩
   refine kk [] ?_
   have nh2_0 := h2_0.len
   refine xO1 (lds := [3, 8]) 9 ?_
   refine xIe (lds := [3, 8]) e237.r (eBs (T := tyU8) (p := g236.b) (et := 5) (xs := ([(u8 b.phase)] : List UInt8)) (reps_cons (c := [vy b.phase]) (u8_rep (by omega)) reps_nil) (by simp)) ?_
   rintro _ _ _ - ⟨A239, c239, k239, rfl, rfl, rfl, h239⟩
   refine kk [] ?_
   refine xSub [(0, Value.pointer (some a_b)), (13, vs A2_0 y2 c2_0), (18, vs A239 ([(u8 b.phase)] : List UInt8) c239)] ?_
   exact hD1 _ _ _ e237 ⟨A2_0, c2_0, k2_0, A239, c239, k239, by kernel_rfl, by kernel_rfl, h2_0, h239⟩
  ·refine xIe (lds := [3, 8]) (Psi.le.refl _) (eBs (T := tyU8) (p := g.b) (et := 5) (xs := ([(u8 b.phase)] : List UInt8)) (reps_cons (c := [vy b.phase]) (u8_rep (by omega)) reps_nil) (by simp)) ?_
   rintro _ _ _ - ⟨A241, c241, k241, rfl, rfl, rfl, h241⟩
   refine kk [] ?_
   refine xO1 (lds := [3, 8]) 4 ?_
   refine xIe (lds := [3, 8]) (Psi.le.refl _) (eC 0 (fun g' lr eb ln => c47 g' (b.steps : Int) hy2)) ?_
   rintro _ g243 _ e244 ⟨_, rfl, A2_0, c2_0, k2_0, rfl, rfl, h2_0⟩
   refine kk [] ?_
   have nh2_0 := h2_0.len
   refine xSel [some 1, some 0] ?_
   refine xSub [(0, Value.pointer (some a_b)), (13, vs A2_0 y2 c2_0), (18, vs A241 ([(u8 b.phase)] : List UInt8) c241)] ?_
   have h241 := h241.mono e244.b
   exact hD1 _ _ _ e244 ⟨A2_0, c2_0, k2_0, A241, c241, k241, by kernel_rfl, by kernel_rfl, h2_0, h241⟩

def o48_L0 (p : List UInt8) (s6 : Int × Nat) : Option (Ctl (Int × Nat) (Int)) :=
 (cond (decide (((s6.2 : Nat) : Int) < 8)) (grd (decide (s6.2 < (p).length)) (grd (decide (0 ≤ (IntKind.i64.wrap (8 * ((s6.2 : Nat) : Int))))) (grd (decide (((s6.2 : Nat) : Int) + 1 ≤ 9223372036854775807)) (some (Ctl.go ((lorK .u64 s6.1 (shlK .u64 ((List.getD p s6.2 0).toNat : Int) (IntKind.i64.wrap (8 * ((s6.2 : Nat) : Int))))), (s6.2 + 1))))))) (some (Ctl.done (s6.1))))
def o48 (p : List UInt8) : Option (Int) :=
 (bindO (τ := Int) (loopO (σ := Int × Nat) (ρ := Int) fuelN (o48_L0 p) (0, 0)) fun t1 => (some (((IntKind.i64.wrap t1) : Int))))
set_option maxRecDepth 100000 in
theorem c48 (g : Gh) (p : List UInt8) (Ap : Option Addr) (cp : Nat) (fp : Arr g.r tyU8 Ap cp p) {r : Int} (hS : o48 p = some r) :
  Ctr Try.prog 48 [vs Ap p cp] g [] (fun v ψ o => v = vi r ∧ o = []) := by
 unfold o48 at hS
 refine xFn Try.f48 (Try.f48.body.getD .skip) 21 ?_
 have nfp := fp.len
 refine xSq ?_
 refine xRg ?_
 refine xB 1 [] [(0, vs Ap p cp)] ?_
 refine xRe ?_
 refine wpq_then ?_
 refine xSq ?_
 refine xRg ?_
 refine xB 1 [] [(0, vs Ap p cp), (3, Value.int .u64 0)] ?_
 refine xRe ?_
 refine wpq_then ?_
 refine xSq ?_
 refine xSq ?_
 refine xRg ?_
 refine xB 1 [] [(0, vs Ap p cp), (3, Value.int .u64 0), (5, vi 0)] ?_
 refine xRe ?_
 refine wpq_then ?_
 refine xBindO hS (fun g own sl t1 => own = [] ∧ sl = [(3, Value.int .u64 t1)]) ?_ ?_
 ·rintro g2 _ _ t1 e3 ⟨rfl, rfl⟩ hS
  refine wpq_then ?_
  refine xSq ?_
  refine xRg ?_
  have z7 := i64_in_ t1
  refine xB 3 [] [(2, vi (IntKind.i64.wrap t1))] ?_
  refine xRe ?_
  refine wpq_then ?_
  have eS := (Option.some.inj hS).symm
  subst eS
  exact xRet [] [2] e3 ⟨by kernel_rfl, by kernel_rfl⟩ (fun _ _ h => h)
 ·intro uu1 hS hN1
  refine xBl 0 ?_
  refine xSub [(0, vs Ap p cp), (3, Value.int .u64 0), (5, vi 0)] ?_
  refine xLo hS (fun g own sl s6 => own = [] ∧ sl = [(0, vs Ap p cp), (3, Value.int .u64 s6.1), (5, vi ((s6.2 : Nat) : Int))]) ⟨by kernel_rfl, by kernel_rfl⟩ ?_
  rintro g7 _ _ s6 uu6 e8 ⟨rfl, rfl⟩ hS Qr6 hN6 hD6
  unfold o48_L0 at hS
  refine xSq ?_
  refine xRg ?_
  refine xB 1 [] [(0, vs Ap p cp), (3, Value.int .u64 s6.1), (5, vi ((s6.2 : Nat) : Int)), (6, vb (decide (((s6.2 : Nat) : Int) < 8)))] ?_
  refine xRe ?_
  refine wpq_then ?_
  refine xSq ?_
  refine xCd (decide (((s6.2 : Nat) : Int) < 8)) (fun h9 => ?_) (fun h9 => ?_)
  ·have hS := cond_T h9 hS
   have h9p := of_decide_eq_true h9
   refine xSk ?_
   refine wpq_then ?_
   refine xSub [(0, vs Ap p cp), (3, Value.int .u64 s6.1), (5, vi ((s6.2 : Nat) : Int))] ?_
   refine xSq ?_
   refine xBl 1 ?_
   refine xSq ?_
   refine xRg ?_
   refine xB 2 [] [(0, vs Ap p cp), (3, Value.int .u64 s6.1), (4, vi ((s6.2 : Nat) : Int)), (5, vi ((s6.2 : Nat) : Int))] ?_
   refine xRe ?_
   refine wpq_then ?_
   refine xRg ?_
   have fp := fp.mono e8.r
   obtain ⟨q11, hS⟩ := grd_T hS
   have q11p := of_decide_eq_true q11
   obtain ⟨ad10, cs10, hA10, hr10, hc10⟩ := fp.at_ (get_getD (d := 0) q11p)
   have hr10 : cs10 = [vy ((List.getD p s6.2 0).toNat : Int)] := hr10
   subst hr10
   have nb10 := UInt8.toNat_lt (List.getD p s6.2 0)
   refine xB 3 [] [(0, vs Ap p cp), (3, Value.int .u64 s6.1), (4, vi ((s6.2 : Nat) : Int)), (5, vi ((s6.2 : Nat) : Int)), (8, Value.int .u64 s6.1), (9, vs Ap p cp), (10, vi ((s6.2 : Nat) : Int))] ?_
   refine xV (qIx s6.2 1 hA10 rfl q11p) ?_
   refine xV (qLdP (Addr.add ad10 (s6.2 * 1)) 0 hc10) ?_
   refine xV (qConv .u8 .u64 (((List.getD p s6.2 0).toNat : Int)) (((List.getD p s6.2 0).toNat : Int)) (wr_u64 (by omega))) ?_
   have z13 := i64_in_ (8 * ((s6.2 : Nat) : Int))
   obtain ⟨q12, hS⟩ := grd_T hS
   have q12p := of_decide_eq_true q12
   refine xB 2 [] [(0, vs Ap p cp), (3, Value.int .u64 s6.1), (5, vi ((s6.2 : Nat) : Int)), (8, Value.int .u64 s6.1), (13, Value.int .u64 ((List.getD p s6.2 0).toNat : Int)), (15, vi (IntKind.i64.wrap (8 * ((s6.2 : Nat) : Int))))] ?_
   refine xV (qShl .u64 .i64 (((List.getD p s6.2 0).toNat : Int)) ((IntKind.i64.wrap (8 * ((s6.2 : Nat) : Int)))) (by omega)) ?_
   refine xB 2 [] [(0, vs Ap p cp), (3, Value.int .u64 (lorK .u64 s6.1 (shlK .u64 ((List.getD p s6.2 0).toNat : Int) (IntKind.i64.wrap (8 * ((s6.2 : Nat) : Int)))))), (5, vi ((s6.2 : Nat) : Int))] ?_
   refine xRe ?_
   refine wpq_blockN ?_
   refine wpq_then ?_
   refine xRg ?_
   obtain ⟨q13, hS⟩ := grd_T hS
   have q13p := of_decide_eq_true q13
   refine xV (qAdd .i64 (((s6.2 : Nat) : Int)) (1) (wr64 (by omega))) ?_
   refine xB 1 [] [(0, vs Ap p cp), (3, Value.int .u64 (lorK .u64 s6.1 (shlK .u64 ((List.getD p s6.2 0).toNat : Int) (IntKind.i64.wrap (8 * ((s6.2 : Nat) : Int)))))), (5, vi (((s6.2 : Nat) : Int) + 1))] ?_
   refine xRe ?_
   refine wpq_thenN ?_
   refine xSub [(0, vs Ap p cp), (3, Value.int .u64 (lorK .u64 s6.1 (shlK .u64 ((List.getD p s6.2 0).toNat : Int) (IntKind.i64.wrap (8 * ((s6.2 : Nat) : Int)))))), (5, vi (((s6.2 : Nat) : Int) + 1))] ?_
   have eS := (Option.some.inj hS).symm
   exact hN6 _ eS _ _ _ (Gh.le.refl _) ⟨by kernel_rfl, by kernel_rfl⟩
  ·have hS := cond_F h9 hS
   have h9p := of_decide_eq_false h9
   refine xEx 0 ?_
   refine wpq_thenX ?_
   refine wpq_thenX ?_
   refine wpq_blockE ?_
   refine xSub [(3, Value.int .u64 s6.1)] ?_
   have eS := (Option.some.inj hS).symm
   have eS := (hD6 _ eS).symm
   exact hN1 _ eS _ _ _ e8 ⟨by kernel_rfl, by kernel_rfl⟩

def o25_L0 (p : List UInt8) (y8 : Int) (d11 : Board) (s23 : Nat × (List Cnd)) : Option (Ctl (Nat × (List Cnd)) (Ctl ((List Cnd)) ((Option Board) × Int))) :=
 (cond (decide (((s23.1 : Nat) : Int) < (((d11.conds).length : Nat) : Int))) (grd (decide (0 ≤ (IntKind.i64.wrap (9 + (IntKind.i64.wrap (9 * ((s23.1 : Nat) : Int))))) ∧ (IntKind.i64.wrap (9 + (IntKind.i64.wrap (9 * ((s23.1 : Nat) : Int))))) ≤ (((p).length : Nat) : Int))) (grd (decide (0 < ((List.drop ((IntKind.i64.wrap (9 + (IntKind.i64.wrap (9 * ((s23.1 : Nat) : Int)))))).toNat p)).length)) (grd (decide (1 ≤ ((((List.drop ((IntKind.i64.wrap (9 + (IntKind.i64.wrap (9 * ((s23.1 : Nat) : Int)))))).toNat p)).length : Nat) : Int))) (bindO (τ := Int) (o48 ((List.drop 1 (List.drop ((IntKind.i64.wrap (9 + (IntKind.i64.wrap (9 * ((s23.1 : Nat) : Int)))))).toNat p)) : List UInt8)) fun y33 => (cond ((((decide (((List.getD (List.drop ((IntKind.i64.wrap (9 + (IntKind.i64.wrap (9 * ((s23.1 : Nat) : Int)))))).toNat p) 0 0).toNat : Int) > 3) || (((List.getD (List.drop ((IntKind.i64.wrap (9 + (IntKind.i64.wrap (9 * ((s23.1 : Nat) : Int)))))).toNat p) 0 0).toNat : Int) == 2)) || ((((List.getD (List.drop ((IntKind.i64.wrap (9 + (IntKind.i64.wrap (9 * ((s23.1 : Nat) : Int)))))).toNat p) 0 0).toNat : Int) == 0) && (y33 != 0))) || ((((List.getD (List.drop ((IntKind.i64.wrap (9 + (IntKind.i64.wrap (9 * ((s23.1 : Nat) : Int)))))).toNat p) 0 0).toNat : Int) != 0) && (decide (y33 < 1) || decide (y33 > y8))))) (some (Ctl.done (Ctl.done (((none : Option Board), (4 : Int)))))) (grd (decide (s23.1 < (s23.2).length)) (grd (decide (((s23.1 : Nat) : Int) + 1 ≤ 9223372036854775807)) (some (Ctl.go ((s23.1 + 1), ((List.set s23.2 s23.1 (⟨y33, (((List.getD (List.drop ((IntKind.i64.wrap (9 + (IntKind.i64.wrap (9 * ((s23.1 : Nat) : Int)))))).toNat p) 0 0).toNat : Int) == 3)⟩ : Cnd)) : List Cnd))))))))))) (some (Ctl.done (Ctl.go (s23.2 : List Cnd)))))
def o25 (l : List AlertDef) (p : List UInt8) : Option ((Option Board) × Int) :=
 (bindO (τ := (Option Board) × Int) (o12 (l : List AlertDef)) fun y1 => (cond ((y1.2 != 0)) (some (((none : Option Board), (y1.2 : Int)))) (cond (((((p).length : Nat) : Int) != (9 + (9 * (((l).length : Nat) : Int))))) (some (((none : Option Board), (4 : Int)))) (bindO (τ := Int) (o48 (p : List UInt8)) fun y8 => (bindO (τ := Board) (y1.1) fun d11 => (cond (((((decide (y8 < 0) || decide (y8 > 4611686018427387904)) || decide (((List.getD p 8 0).toNat : Int) < 1)) || decide (((List.getD p 8 0).toNat : Int) > 8)) || ((y8 == 0) && (((List.getD p 8 0).toNat : Int) != 1)))) (some (((none : Option Board), (4 : Int)))) (joinO (τ := (List Cnd)) (ρ := (Option Board) × Int) (loopO (σ := Nat × (List Cnd)) (ρ := Ctl ((List Cnd)) ((Option Board) × Int)) fuelN (o25_L0 p y8 d11) (0, (d11.conds : List Cnd))) fun t18 => (some (((some (⟨d11.defs, y8, ((List.getD p 8 0).toNat : Int), t18⟩ : Board)), (0 : Int)))))))))))
set_option maxRecDepth 100000 in
theorem c25 (g : Gh) (l : List AlertDef) (Al : Option Addr) (cl : Nat) (p : List UInt8) (Ap : Option Addr) (cp : Nat) (fl : ArrM g.r g.b tyAlertDef Al cl l) (fp : Arr g.r tyU8 Ap cp p) {r : (Option Board) × Int} (hS : o25 l p = some r) :
  Ctr Try.prog 25 [vs Al l cl, vs Ap p cp] g [] (fun v ψ o => ∃ (vr_0 : Value) (kr_0 : Option Bk) (kr_0_0 : Option Bk), v = Value.tuple #[vr_0, vi r.2] ∧ o = [kr_0, kr_0_0] ∧ (r.1 = none → vr_0 = Value.pointer none) ∧ (∀ d, r.1 = some d → ∃ (bd : Nat) (Ad_defs : Option Addr) (cd_defs : Nat) (Ad_conds : Option Addr) (cd_conds : Nat) (kd_conds : Option Bk), vr_0 = Value.pointer (some ⟨bd, 0, none⟩) ∧ kr_0 = some ⟨bd, 71, [vs Ad_defs d.defs cd_defs, vi d.steps, vy d.phase, vs Ad_conds d.conds cd_conds]⟩ ∧ kr_0_0 = kd_conds ∧ Arr ψ tyAlertDef Ad_defs cd_defs d.defs ∧ Buf ψ tyCnd 79 (.slice Ad_conds (d.conds).length cd_conds) kd_conds d.conds)) := by
 unfold o25 at hS
 refine xFn Try.f25 (Try.f25.body.getD .skip) 139 ?_
 have nfl := fl.len
 have nfp := fp.len
 refine xSq ?_
 refine xRg ?_
 refine xB 2 [] [(0, vs Al l cl), (1, vs Ap p cp)] ?_
 refine xRe ?_
 refine wpq_then ?_
 refine xSq ?_
 refine xRg ?_
 refine xB 1 [] [(0, vs Al l cl), (1, vs Ap p cp), (13, vs Al l cl)] ?_
 obtain ⟨y1, hy1, hS⟩ := bindO_T hS
 refine xE (eC 0 (fun g' lr eb ln => c12 g' (l : List AlertDef) Al cl (ArrM.lent fl lr eb) hy1)) ?_
 rintro _ g2 _ e3 ⟨_, rfl, v1_0, k1_0, k1_0_0, rfl, rfl, hn1_0, hs1_0⟩
 refine xB 5 [] [(0, vs Al l cl), (1, vs Ap p cp), (6, v1_0), (7, vi y1.2)] ?_
 refine xRe ?_
 refine wpq_then ?_
 refine xSq ?_
 refine xSq ?_
 refine xRg ?_
 refine xB 2 [] [(0, vs Al l cl), (1, vs Ap p cp), (6, v1_0), (7, vi y1.2), (18, vb (y1.2 != 0))] ?_
 refine xRe ?_
 refine wpq_then ?_
 refine xCd ((y1.2 != 0)) (fun h4 => ?_) (fun h4 => ?_)
 ·have hS := cond_T h4 hS
  have h4p : ¬ (y1.2 = 0) := ne_of_bne_ h4
  refine xSq ?_
  refine xRg ?_
  refine xB 3 [] [(4, vn), (5, vi y1.2)] ?_
  refine xRe ?_
  refine wpq_then ?_
  have eS := (Option.some.inj hS).symm
  subst eS
  exact xRet [none, none] [4, 5] e3 ⟨Value.pointer none, none, none, by kernel_rfl, by kernel_rfl, (fun _ => rfl), (fun _ h => by cases h)⟩ (fun _ _ h => h)
 ·have hS := cond_F h4 hS
  have h4p : y1.2 = 0 := eq_of_bne_false_ h4
  refine xSk ?_
  refine wpq_then ?_
  refine xSub [(0, vs Al l cl), (1, vs Ap p cp), (6, v1_0)] ?_
  refine xSq ?_
  refine xSq ?_
  refine xRg ?_
  refine xB 4 [] [(1, vs Ap p cp), (6, v1_0), (21, vi (((p).length : Nat) : Int)), (23, vi (((l).length : Nat) : Int))] ?_
  refine xV (qMul .i64 (9) ((((l).length : Nat) : Int)) (wr64 (by omega))) ?_
  refine xV (qAdd .i64 (9) ((9 * (((l).length : Nat) : Int))) (wr64 (by omega))) ?_
  refine xB 1 [] [(1, vs Ap p cp), (6, v1_0), (26, vb ((((p).length : Nat) : Int) != (9 + (9 * (((l).length : Nat) : Int)))))] ?_
  refine xRe ?_
  refine wpq_then ?_
  refine xCd (((((p).length : Nat) : Int) != (9 + (9 * (((l).length : Nat) : Int))))) (fun h5 => ?_) (fun h5 => ?_)
  ·have hS := cond_T h5 hS
   have h5p : ¬ ((((p).length : Nat) : Int) = (9 + (9 * (((l).length : Nat) : Int)))) := ne_of_bne_ h5
   refine xSq ?_
   refine xRg ?_
   refine xB 2 [] [(4, vn), (5, vi 4)] ?_
   refine xRe ?_
   refine wpq_then ?_
   have eS := (Option.some.inj hS).symm
   subst eS
   exact xRet [none, none] [4, 5] e3 ⟨Value.pointer none, none, none, by kernel_rfl, by kernel_rfl, (fun _ => rfl), (fun _ h => by cases h)⟩ (fun _ _ h => h)
  ·have hS := cond_F h5 hS
   have h5p : (((p).length : Nat) : Int) = (9 + (9 * (((l).length : Nat) : Int))) := eq_of_bne_false_ h5
   refine xSk ?_
   refine wpq_then ?_
   refine xSub [(1, vs Ap p cp), (6, v1_0)] ?_
   refine xSq ?_
   refine xDr 0 [6] [9, 12, 7, 8, 10, 11] [] 13 (fun RG => ?_) (fun _ _ _ _ _ h => h)
   have fp := fp.mono e3.r
   have i7 : 8 < (p).length := by omega
   obtain ⟨ad6, cs6, hA6, hr6, hc6⟩ := fp.at_ (get_getD (d := 0) i7)
   have hr6 : cs6 = [vy ((List.getD p 8 0).toNat : Int)] := hr6
   subst hr6
   have nb6 := UInt8.toNat_lt (List.getD p 8 0)
   refine xT 9 [0, 1, 2, 4] [] [] [(1, vs Ap p cp), (6, v1_0), (27, v1_0), (28, v1_0), (29, vs Ap p cp), (31, vs Ap p cp)] RG (Psi.le.refl _) ?_
   refine xTp 5 RG (fun _ => (qIx 8 1 hA6 rfl i7)) ?_
   refine xTv 6 [] RG (Psi.le.refl _) (qLdP (Addr.add ad6 (8 * 1)) 0 hc6) ?_
   obtain ⟨y8, hy8, hS⟩ := bindO_T hS
   refine xO1 (lds := [6]) 3 ?_
   refine xIe (lds := [6]) (Psi.le.refl _) (eC 0 (fun g' lr eb ln => c48 g' (p : List UInt8) Ap cp (fp.mono lr) hy8)) ?_
   rintro _ g9 _ e10 ⟨_, rfl, rfl, rfl⟩
   refine kk [] ?_
   obtain ⟨d11, ed11, hS⟩ := bindO_T hS
   obtain ⟨bd11, Ad11_defs, cd11_defs, Ad11_conds, cd11_conds, kd11_conds, rfl, rfl, rfl, fd11_defs, hd11_conds⟩ := hs1_0 d11 ed11
   have nfd11_defs := fd11_defs.len
   have nhd11_conds := hd11_conds.len
   refine xT 4 [7, 8] [] [] [(1, vs Ap p cp), (6, vp bd11 0), (28, vp bd11 0), (30, vi y8), (33, vy ((List.getD p 8 0).toNat : Int)), (35, vp bd11 1)] RG e10.r ?_
   refine xO1 (lds := [6]) 9 ?_
   refine xId (lds := [6]) e10.r (eStL bd11 1 0) ?_
   rintro _ _ _ - ⟨rfl, rfl⟩
   refine kf ?_
   refine xT 1 [10, 11] [] [] [(1, vs Ap p cp), (6, vp bd11 0), (33, vy ((List.getD p 8 0).toNat : Int)), (37, vp bd11 2)] RG e10.r ?_
   refine xO1 (lds := [6]) 12 ?_
   refine xId (lds := [6]) e10.r (eStL bd11 2 0) ?_
   rintro _ _ _ - ⟨rfl, rfl⟩
   refine kf ?_
   refine xAe (lds := [6]) ?_
   refine wpq_then ?_
   refine xSub [(1, vs Ap p cp), (6, vp bd11 0)] ?_
   refine xSq ?_
   refine xSq ?_
   refine xRg ?_
   refine xB 6 [(3, 0)] [(1, vs Ap p cp), (6, vp bd11 0), (43, vb (decide (y8 < 0)))] ?_
   refine wpr_grp 12 [(1, vs Ap p cp), (6, vp bd11 0), (49, vb (decide (y8 < 0) || decide (y8 > 4611686018427387904)))] (fun hk5 => ?_) ?_
   ·refine wpq_split 43 (b := decide (y8 < 0)) (by kernel_rfl) (fun q12 => ?_) (fun q12 => ?_)
    ·have q12p := of_decide_eq_true q12
     refine xB 6 [] [(1, vs Ap p cp), (6, vp bd11 0), (49, vb true)] ?_
     refine wpq_re 49 (v := vb true) (Value.bool ((decide (y8 < 0) || decide (y8 > 4611686018427387904)))) (by kernel_rfl) (re_or1 q12) ?_
     exact wpq_sub _ (by kernel_rfl) hk5
    ·have q12p := of_decide_eq_false q12
     refine xB 6 [(9, 0)] [(1, vs Ap p cp), (6, vp bd11 0), (49, vb (decide (y8 > 4611686018427387904)))] ?_
     refine wpq_re 49 (v := vb (decide (y8 > 4611686018427387904))) (Value.bool ((decide (y8 < 0) || decide (y8 > 4611686018427387904)))) (by kernel_rfl) (re_or0 q12) ?_
     exact wpq_sub _ (by kernel_rfl) hk5
   ·refine xB 1 [] [(1, vs Ap p cp), (6, vp bd11 0), (50, vb (decide (y8 < 0) || decide (y8 > 4611686018427387904)))] ?_
    refine wpr_grp 19 [(1, vs Ap p cp), (6, vp bd11 0), (56, vb ((decide (y8 < 0) || decide (y8 > 4611686018427387904)) || decide (((List.getD p 8 0).toNat : Int) < 1)))] (fun hk12 => ?_) ?_
    ·refine wpq_split 50 (b := (decide (y8 < 0) || decide (y8 > 4611686018427387904))) (by kernel_rfl) (fun q13 => ?_) (fun q13 => ?_)
     ·refine xB 6 [] [(1, vs Ap p cp), (6, vp bd11 0), (56, vb true)] ?_
      refine wpq_re 56 (v := vb true) (Value.bool (((decide (y8 < 0) || decide (y8 > 4611686018427387904)) || decide (((List.getD p 8 0).toNat : Int) < 1)))) (by kernel_rfl) (re_or1 q13) ?_
      exact wpq_sub _ (by kernel_rfl) hk12
     ·have q13l := (or_false_ q13).1
      have q13r := (or_false_ q13).2
      have q13lp := of_decide_eq_false q13l
      have q13rp := of_decide_eq_false q13r
      refine xB 6 [(16, 0)] [(1, vs Ap p cp), (6, vp bd11 0), (56, vb (decide (((List.getD p 8 0).toNat : Int) < 1)))] ?_
      refine wpq_re 56 (v := vb (decide (((List.getD p 8 0).toNat : Int) < 1))) (Value.bool (((decide (y8 < 0) || decide (y8 > 4611686018427387904)) || decide (((List.getD p 8 0).toNat : Int) < 1)))) (by kernel_rfl) (re_or0 q13) ?_
      exact wpq_sub _ (by kernel_rfl) hk12
    ·refine xB 1 [] [(1, vs Ap p cp), (6, vp bd11 0), (57, vb ((decide (y8 < 0) || decide (y8 > 4611686018427387904)) || decide (((List.getD p 8 0).toNat : Int) < 1)))] ?_
     refine wpr_grp 26 [(1, vs Ap p cp), (6, vp bd11 0), (63, vb (((decide (y8 < 0) || decide (y8 > 4611686018427387904)) || decide (((List.getD p 8 0).toNat : Int) < 1)) || decide (((List.getD p 8 0).toNat : Int) > 8)))] (fun hk19 => ?_) ?_
     ·refine wpq_split 57 (b := ((decide (y8 < 0) || decide (y8 > 4611686018427387904)) || decide (((List.getD p 8 0).toNat : Int) < 1))) (by kernel_rfl) (fun q14 => ?_) (fun q14 => ?_)
      ·refine xB 6 [] [(1, vs Ap p cp), (6, vp bd11 0), (63, vb true)] ?_
       refine wpq_re 63 (v := vb true) (Value.bool ((((decide (y8 < 0) || decide (y8 > 4611686018427387904)) || decide (((List.getD p 8 0).toNat : Int) < 1)) || decide (((List.getD p 8 0).toNat : Int) > 8)))) (by kernel_rfl) (re_or1 q14) ?_
       exact wpq_sub _ (by kernel_rfl) hk19
      ·have q14l := (or_false_ q14).1
       have q14r := (or_false_ q14).2
       have q14ll := (or_false_ q14l).1
       have q14lr := (or_false_ q14l).2
       have q14llp := of_decide_eq_false q14ll
       have q14lrp := of_decide_eq_false q14lr
       have q14rp := of_decide_eq_false q14r
       refine xB 6 [(23, 0)] [(1, vs Ap p cp), (6, vp bd11 0), (63, vb (decide (((List.getD p 8 0).toNat : Int) > 8)))] ?_
       refine wpq_re 63 (v := vb (decide (((List.getD p 8 0).toNat : Int) > 8))) (Value.bool ((((decide (y8 < 0) || decide (y8 > 4611686018427387904)) || decide (((List.getD p 8 0).toNat : Int) < 1)) || decide (((List.getD p 8 0).toNat : Int) > 8)))) (by kernel_rfl) (re_or0 q14) ?_
       exact wpq_sub _ (by kernel_rfl) hk19
     ·refine xB 1 [] [(1, vs Ap p cp), (6, vp bd11 0), (64, vb (((decide (y8 < 0) || decide (y8 > 4611686018427387904)) || decide (((List.getD p 8 0).toNat : Int) < 1)) || decide (((List.getD p 8 0).toNat : Int) > 8)))] ?_
      refine wpr_grp 40 [(1, vs Ap p cp), (6, vp bd11 0), (77, vb ((((decide (y8 < 0) || decide (y8 > 4611686018427387904)) || decide (((List.getD p 8 0).toNat : Int) < 1)) || decide (((List.getD p 8 0).toNat : Int) > 8)) || ((y8 == 0) && (((List.getD p 8 0).toNat : Int) != 1))))] (fun hk26 => ?_) ?_
      ·refine wpq_split 64 (b := (((decide (y8 < 0) || decide (y8 > 4611686018427387904)) || decide (((List.getD p 8 0).toNat : Int) < 1)) || decide (((List.getD p 8 0).toNat : Int) > 8))) (by kernel_rfl) (fun q15 => ?_) (fun q15 => ?_)
       ·refine xB 13 [] [(1, vs Ap p cp), (6, vp bd11 0), (77, vb true)] ?_
        refine wpq_re 77 (v := vb true) (Value.bool (((((decide (y8 < 0) || decide (y8 > 4611686018427387904)) || decide (((List.getD p 8 0).toNat : Int) < 1)) || decide (((List.getD p 8 0).toNat : Int) > 8)) || ((y8 == 0) && (((List.getD p 8 0).toNat : Int) != 1))))) (by kernel_rfl) (re_or1 q15) ?_
        exact wpq_sub _ (by kernel_rfl) hk26
       ·have q15l := (or_false_ q15).1
        have q15r := (or_false_ q15).2
        have q15ll := (or_false_ q15l).1
        have q15lr := (or_false_ q15l).2
        have q15lll := (or_false_ q15ll).1
        have q15llr := (or_false_ q15ll).2
        have q15lllp := of_decide_eq_false q15lll
        have q15llrp := of_decide_eq_false q15llr
        have q15lrp := of_decide_eq_false q15lr
        have q15rp := of_decide_eq_false q15r
        refine xB 6 [(30, 0)] [(1, vs Ap p cp), (6, vp bd11 0), (64, vb false), (70, vb (y8 == 0))] ?_
        refine wpr_grp 39 [(1, vs Ap p cp), (6, vp bd11 0), (64, vb false), (76, vb ((y8 == 0) && (((List.getD p 8 0).toNat : Int) != 1)))] (fun hk32 => ?_) ?_
        ·refine wpq_split 70 (b := (y8 == 0)) (by kernel_rfl) (fun q16 => ?_) (fun q16 => ?_)
         ·have q16p : y8 = 0 := eq_of_beq q16
          refine xB 6 [(36, 0)] [(1, vs Ap p cp), (6, vp bd11 0), (64, vb false), (76, vb (((List.getD p 8 0).toNat : Int) != 1))] ?_
          refine wpq_re 76 (v := vb (((List.getD p 8 0).toNat : Int) != 1)) (Value.bool (((y8 == 0) && (((List.getD p 8 0).toNat : Int) != 1)))) (by kernel_rfl) (re_and1 q16) ?_
          exact wpq_sub _ (by kernel_rfl) hk32
         ·have q16p : ¬ (y8 = 0) := ne_of_beq_false_ q16
          refine xB 6 [] [(1, vs Ap p cp), (6, vp bd11 0), (64, vb false), (76, vb false)] ?_
          refine wpq_re 76 (v := vb false) (Value.bool (((y8 == 0) && (((List.getD p 8 0).toNat : Int) != 1)))) (by kernel_rfl) (re_and0 q16) ?_
          exact wpq_sub _ (by kernel_rfl) hk32
        ·refine xB 1 [] [(1, vs Ap p cp), (6, vp bd11 0), (77, vb ((y8 == 0) && (((List.getD p 8 0).toNat : Int) != 1)))] ?_
         refine wpq_re 77 (v := vb ((y8 == 0) && (((List.getD p 8 0).toNat : Int) != 1))) (Value.bool (((((decide (y8 < 0) || decide (y8 > 4611686018427387904)) || decide (((List.getD p 8 0).toNat : Int) < 1)) || decide (((List.getD p 8 0).toNat : Int) > 8)) || ((y8 == 0) && (((List.getD p 8 0).toNat : Int) != 1))))) (by kernel_rfl) (re_or0 q15) ?_
         exact wpq_sub _ (by kernel_rfl) hk26
      ·refine xRe ?_
       refine wpq_then ?_
       refine xCd (((((decide (y8 < 0) || decide (y8 > 4611686018427387904)) || decide (((List.getD p 8 0).toNat : Int) < 1)) || decide (((List.getD p 8 0).toNat : Int) > 8)) || ((y8 == 0) && (((List.getD p 8 0).toNat : Int) != 1)))) (fun h17 => ?_) (fun h17 => ?_)
       ·have hS := cond_T h17 hS
        refine xSq ?_
        refine xRg ?_
        refine xB 2 [] [(4, vn), (5, vi 4)] ?_
        refine xRe ?_
        refine wpq_then ?_
        have eS := (Option.some.inj hS).symm
        subst eS
        exact xRet [none, none] [4, 5] (e3.trans e10) ⟨Value.pointer none, none, none, by kernel_rfl, by kernel_rfl, (fun _ => rfl), (fun _ h => by cases h)⟩ (fun _ _ h => h)
       ·have hS := cond_F h17 hS
        have h17l := (or_false_ h17).1
        have h17r := (or_false_ h17).2
        have h17ll := (or_false_ h17l).1
        have h17lr := (or_false_ h17l).2
        have h17lll := (or_false_ h17ll).1
        have h17llr := (or_false_ h17ll).2
        have h17llll := (or_false_ h17lll).1
        have h17lllr := (or_false_ h17lll).2
        have h17llllp := of_decide_eq_false h17llll
        have h17lllrp := of_decide_eq_false h17lllr
        have h17llrp := of_decide_eq_false h17llr
        have h17lrp := of_decide_eq_false h17lr
        refine xSk ?_
        refine wpq_then ?_
        refine xSub [(1, vs Ap p cp), (6, vp bd11 0)] ?_
        refine xSq ?_
        refine xSq ?_
        refine xRg ?_
        refine xB 6 [(3, 0)] [(1, vs Ap p cp), (6, vp bd11 0), (82, vi (((d11.conds).length : Nat) : Int)), (83, vi 0)] ?_
        refine xRe ?_
        refine wpq_then ?_
        refine xJoinO hS (fun g own sl t18 => ∃ (k18_0 : Option Bk), own = [some ⟨bd11, 71, (cBoard (⟨d11.defs, y8, ((List.getD p 8 0).toNat : Int), t18⟩ : Board) Ad11_defs cd11_defs Ad11_conds cd11_conds)⟩, k18_0] ∧ sl = [(6, vp bd11 0)] ∧ Buf g.b tyCnd 79 (.slice Ad11_conds (t18).length cd11_conds) k18_0 t18) ?_ ?_
        ·rintro g19 _ _ t18 e20 ⟨k18_0, rfl, rfl, h18_0⟩ hS
         have nh18_0 := h18_0.len
         refine wpq_then ?_
         refine xSq ?_
         refine xRg ?_
         refine xB 3 [] [(4, vp bd11 0), (5, vi 0)] ?_
         refine xRe ?_
         refine wpq_then ?_
         have fd11_defs := fd11_defs.mono (e10.trans e20).b
         have eS := (Option.some.inj hS).symm
         subst eS
         exact xRet [some 0, some 1] [4, 5] (e3.trans (e10.trans e20)) ⟨vp bd11 0, some ⟨bd11, 71, (cBoard (⟨d11.defs, y8, ((List.getD p 8 0).toNat : Int), t18⟩ : Board) Ad11_defs cd11_defs Ad11_conds cd11_conds)⟩, k18_0, by kernel_rfl, by kernel_rfl, (fun h => by cases h), (fun _ h => by cases h; exact ⟨bd11, Ad11_defs, cd11_defs, Ad11_conds, cd11_conds, k18_0, rfl, rfl, rfl, fd11_defs, h18_0⟩)⟩ (fun _ _ h => h)
        ·intro uu18 hS hN18 hD18
         refine xBl 0 ?_
         have hd11_conds := hd11_conds.mono e10.b
         refine xSub [(1, vs Ap p cp), (6, vp bd11 0), (82, vi (((d11.conds).length : Nat) : Int)), (83, vi 0)] ?_
         refine xLo hS (fun g own sl s23 => ∃ (k23_1 : Option Bk), own = [some ⟨bd11, 71, (cBoard (⟨d11.defs, y8, ((List.getD p 8 0).toNat : Int), s23.2⟩ : Board) Ad11_defs cd11_defs Ad11_conds cd11_conds)⟩, k23_1] ∧ sl = [(1, vs Ap p cp), (6, vp bd11 0), (82, vi (((d11.conds).length : Nat) : Int)), (83, vi ((s23.1 : Nat) : Int))] ∧ Buf g.b tyCnd 79 (.slice Ad11_conds (s23.2).length cd11_conds) k23_1 s23.2) ⟨k1_0_0, by kernel_rfl, by kernel_rfl, hd11_conds⟩ ?_
         rintro g24 _ _ s23 uu23 e25 ⟨k23_1, rfl, rfl, h23_1⟩ hS Qr23 hN23 hD23
         have nh23_1 := h23_1.len
         unfold o25_L0 at hS
         refine xSq ?_
         refine xRg ?_
         refine xB 1 [] [(1, vs Ap p cp), (6, vp bd11 0), (82, vi (((d11.conds).length : Nat) : Int)), (83, vi ((s23.1 : Nat) : Int)), (84, vb (decide (((s23.1 : Nat) : Int) < (((d11.conds).length : Nat) : Int))))] ?_
         refine xRe ?_
         refine wpq_then ?_
         refine xSq ?_
         refine xCd (decide (((s23.1 : Nat) : Int) < (((d11.conds).length : Nat) : Int))) (fun h26 => ?_) (fun h26 => ?_)
         ·have hS := cond_T h26 hS
          have h26p := of_decide_eq_true h26
          refine xSk ?_
          refine wpq_then ?_
          refine xSub [(1, vs Ap p cp), (6, vp bd11 0), (82, vi (((d11.conds).length : Nat) : Int)), (83, vi ((s23.1 : Nat) : Int))] ?_
          refine xSq ?_
          refine xBl 1 ?_
          refine xSq ?_
          refine xRg ?_
          refine xB 2 [] [(1, vs Ap p cp), (6, vp bd11 0), (8, vi ((s23.1 : Nat) : Int)), (82, vi (((d11.conds).length : Nat) : Int)), (83, vi ((s23.1 : Nat) : Int))] ?_
          refine xRe ?_
          refine wpq_then ?_
          refine xSq ?_
          refine xRg ?_
          have z23 := i64_in_ (9 * ((s23.1 : Nat) : Int))
          have z24 := i64_in_ (9 + (IntKind.i64.wrap (9 * ((s23.1 : Nat) : Int))))
          have fp := fp.mono (e10.trans e25).r
          obtain ⟨q27, hS⟩ := grd_T hS
          have q27p := of_decide_eq_true q27
          have ncapf28 := fp.cap
          have f28 : Arr g24.r tyU8 (offA Ap cp ((IntKind.i64.wrap (9 + (IntKind.i64.wrap (9 * ((s23.1 : Nat) : Int)))))).toNat 1) (cp - ((IntKind.i64.wrap (9 + (IntKind.i64.wrap (9 * ((s23.1 : Nat) : Int)))))).toNat) (List.drop ((IntKind.i64.wrap (9 + (IntKind.i64.wrap (9 * ((s23.1 : Nat) : Int)))))).toNat p) := fp.cut_from ((IntKind.i64.wrap (9 + (IntKind.i64.wrap (9 * ((s23.1 : Nat) : Int)))))).toNat (by omega)
          have nf28 := f28.len
          have hlf28 : (p).length - ((IntKind.i64.wrap (9 + (IntKind.i64.wrap (9 * ((s23.1 : Nat) : Int)))))).toNat = ((List.drop ((IntKind.i64.wrap (9 + (IntKind.i64.wrap (9 * ((s23.1 : Nat) : Int)))))).toNat p)).length := by simp only [List.length_take, List.length_drop] <;> omega
          have hvf28 : ((((List.drop ((IntKind.i64.wrap (9 + (IntKind.i64.wrap (9 * ((s23.1 : Nat) : Int)))))).toNat p)).length : Nat) : Int) = (((p).length : Nat) : Int) - (IntKind.i64.wrap (9 + (IntKind.i64.wrap (9 * ((s23.1 : Nat) : Int))))) := by omega
          refine xB 4 [] [(1, vs Ap p cp), (6, vp bd11 0), (8, vi ((s23.1 : Nat) : Int)), (82, vi (((d11.conds).length : Nat) : Int)), (83, vi ((s23.1 : Nat) : Int)), (86, vs Ap p cp), (89, vi (IntKind.i64.wrap (9 + (IntKind.i64.wrap (9 * ((s23.1 : Nat) : Int))))))] ?_
          refine xV (qSl (m := 1) (A := Ap) (len := (p).length) (c := cp) ((IntKind.i64.wrap (9 + (IntKind.i64.wrap (9 * ((s23.1 : Nat) : Int)))))).toNat (p).length (some (IntKind.i64.wrap (9 + (IntKind.i64.wrap (9 * ((s23.1 : Nat) : Int)))))) none ((List.drop ((IntKind.i64.wrap (9 + (IntKind.i64.wrap (9 * ((s23.1 : Nat) : Int)))))).toNat p)).length (show _ = _ by omega) rfl (by omega) (by omega) hlf28) ?_
          refine xB 1 [] [(1, vs Ap p cp), (6, vp bd11 0), (8, vi ((s23.1 : Nat) : Int)), (9, vs (offA Ap cp ((IntKind.i64.wrap (9 + (IntKind.i64.wrap (9 * ((s23.1 : Nat) : Int)))))).toNat 1) (List.drop ((IntKind.i64.wrap (9 + (IntKind.i64.wrap (9 * ((s23.1 : Nat) : Int)))))).toNat p) (cp - ((IntKind.i64.wrap (9 + (IntKind.i64.wrap (9 * ((s23.1 : Nat) : Int)))))).toNat)), (82, vi (((d11.conds).length : Nat) : Int)), (83, vi ((s23.1 : Nat) : Int))] ?_
          refine xRe ?_
          refine wpq_then ?_
          refine xSq ?_
          refine xDr 0 [2] [6, 7] [some ⟨bd11, 71, (cBoard (⟨d11.defs, y8, ((List.getD p 8 0).toNat : Int), s23.2⟩ : Board) Ad11_defs cd11_defs Ad11_conds cd11_conds)⟩] 8 (fun RG => ?_) (fun _ _ _ _ _ h => h)
          obtain ⟨q30, hS⟩ := grd_T hS
          have q30p := of_decide_eq_true q30
          obtain ⟨ad29, cs29, hA29, hr29, hc29⟩ := f28.at_ (get_getD (d := 0) q30p)
          have hr29 : cs29 = [vy ((List.getD (List.drop ((IntKind.i64.wrap (9 + (IntKind.i64.wrap (9 * ((s23.1 : Nat) : Int)))))).toNat p) 0 0).toNat : Int)] := hr29
          subst hr29
          have nb29 := UInt8.toNat_lt (List.getD (List.drop ((IntKind.i64.wrap (9 + (IntKind.i64.wrap (9 * ((s23.1 : Nat) : Int)))))).toNat p) 0 0)
          refine xT 7 [0] [] [some 0] [(1, vs Ap p cp), (6, vp bd11 0), (8, vi ((s23.1 : Nat) : Int)), (9, vs (offA Ap cp ((IntKind.i64.wrap (9 + (IntKind.i64.wrap (9 * ((s23.1 : Nat) : Int)))))).toNat 1) (List.drop ((IntKind.i64.wrap (9 + (IntKind.i64.wrap (9 * ((s23.1 : Nat) : Int)))))).toNat p) (cp - ((IntKind.i64.wrap (9 + (IntKind.i64.wrap (9 * ((s23.1 : Nat) : Int)))))).toNat)), (82, vi (((d11.conds).length : Nat) : Int)), (83, vi ((s23.1 : Nat) : Int)), (91, vs (offA Ap cp ((IntKind.i64.wrap (9 + (IntKind.i64.wrap (9 * ((s23.1 : Nat) : Int)))))).toNat 1) (List.drop ((IntKind.i64.wrap (9 + (IntKind.i64.wrap (9 * ((s23.1 : Nat) : Int)))))).toNat p) (cp - ((IntKind.i64.wrap (9 + (IntKind.i64.wrap (9 * ((s23.1 : Nat) : Int)))))).toNat))] RG (Psi.le.refl _) ?_
          refine xTp 1 RG (fun _ => (qIx 0 1 hA29 rfl q30p)) ?_
          refine xTv 2 [some 0] RG (Psi.le.refl _) (qLdP (Addr.add ad29 (0 * 1)) 0 hc29) ?_
          obtain ⟨q31, hS⟩ := grd_T hS
          have q31p := of_decide_eq_true q31
          have ncapf32 := f28.cap
          have f32 : Arr g24.r tyU8 (offA (offA Ap cp ((IntKind.i64.wrap (9 + (IntKind.i64.wrap (9 * ((s23.1 : Nat) : Int)))))).toNat 1) (cp - ((IntKind.i64.wrap (9 + (IntKind.i64.wrap (9 * ((s23.1 : Nat) : Int)))))).toNat) 1 1) ((cp - ((IntKind.i64.wrap (9 + (IntKind.i64.wrap (9 * ((s23.1 : Nat) : Int)))))).toNat) - 1) (List.drop 1 (List.drop ((IntKind.i64.wrap (9 + (IntKind.i64.wrap (9 * ((s23.1 : Nat) : Int)))))).toNat p)) := f28.cut_from 1 (by omega)
          have nf32 := f32.len
          have hlf32 : ((List.drop ((IntKind.i64.wrap (9 + (IntKind.i64.wrap (9 * ((s23.1 : Nat) : Int)))))).toNat p)).length - 1 = ((List.drop 1 (List.drop ((IntKind.i64.wrap (9 + (IntKind.i64.wrap (9 * ((s23.1 : Nat) : Int)))))).toNat p))).length := by simp only [List.length_take, List.length_drop] <;> omega
          have hvf32 : ((((List.drop 1 (List.drop ((IntKind.i64.wrap (9 + (IntKind.i64.wrap (9 * ((s23.1 : Nat) : Int)))))).toNat p))).length : Nat) : Int) = ((((List.drop ((IntKind.i64.wrap (9 + (IntKind.i64.wrap (9 * ((s23.1 : Nat) : Int)))))).toNat p)).length : Nat) : Int) - 1 := by omega
          refine xT 4 [3] [] [some 0] [(1, vs Ap p cp), (6, vp bd11 0), (8, vi ((s23.1 : Nat) : Int)), (82, vi (((d11.conds).length : Nat) : Int)), (83, vi ((s23.1 : Nat) : Int)), (93, vy ((List.getD (List.drop ((IntKind.i64.wrap (9 + (IntKind.i64.wrap (9 * ((s23.1 : Nat) : Int)))))).toNat p) 0 0).toNat : Int)), (94, vs (offA Ap cp ((IntKind.i64.wrap (9 + (IntKind.i64.wrap (9 * ((s23.1 : Nat) : Int)))))).toNat 1) (List.drop ((IntKind.i64.wrap (9 + (IntKind.i64.wrap (9 * ((s23.1 : Nat) : Int)))))).toNat p) (cp - ((IntKind.i64.wrap (9 + (IntKind.i64.wrap (9 * ((s23.1 : Nat) : Int)))))).toNat))] RG (Psi.le.refl _) ?_
          refine xTp 4 RG (fun _ => (qSl (m := 1) (A := (offA Ap cp ((IntKind.i64.wrap (9 + (IntKind.i64.wrap (9 * ((s23.1 : Nat) : Int)))))).toNat 1)) (len := ((List.drop ((IntKind.i64.wrap (9 + (IntKind.i64.wrap (9 * ((s23.1 : Nat) : Int)))))).toNat p)).length) (c := (cp - ((IntKind.i64.wrap (9 + (IntKind.i64.wrap (9 * ((s23.1 : Nat) : Int)))))).toNat)) 1 ((List.drop ((IntKind.i64.wrap (9 + (IntKind.i64.wrap (9 * ((s23.1 : Nat) : Int)))))).toNat p)).length (some 1) none ((List.drop 1 (List.drop ((IntKind.i64.wrap (9 + (IntKind.i64.wrap (9 * ((s23.1 : Nat) : Int)))))).toNat p))).length rfl rfl (by omega) (by omega) hlf32)) ?_
          obtain ⟨y33, hy33, hS⟩ := bindO_T hS
          refine xO1 (lds := [2]) 5 ?_
          refine xIe (lds := [2]) (Psi.le.refl _) (eC 0 (fun g' lr eb ln => c48 g' ((List.drop 1 (List.drop ((IntKind.i64.wrap (9 + (IntKind.i64.wrap (9 * ((s23.1 : Nat) : Int)))))).toNat p)) : List UInt8) (offA (offA Ap cp ((IntKind.i64.wrap (9 + (IntKind.i64.wrap (9 * ((s23.1 : Nat) : Int)))))).toNat 1) (cp - ((IntKind.i64.wrap (9 + (IntKind.i64.wrap (9 * ((s23.1 : Nat) : Int)))))).toNat) 1 1) ((cp - ((IntKind.i64.wrap (9 + (IntKind.i64.wrap (9 * ((s23.1 : Nat) : Int)))))).toNat) - 1) (f32.mono lr) hy33)) ?_
          rintro _ g34 _ e35 ⟨_, rfl, rfl, rfl⟩
          refine kk [some 0] ?_
          refine xT 0 [6, 7] [] [some 0] [(1, vs Ap p cp), (6, vp bd11 0), (8, vi ((s23.1 : Nat) : Int)), (10, vy ((List.getD (List.drop ((IntKind.i64.wrap (9 + (IntKind.i64.wrap (9 * ((s23.1 : Nat) : Int)))))).toNat p) 0 0).toNat : Int)), (11, vi y33), (82, vi (((d11.conds).length : Nat) : Int)), (83, vi ((s23.1 : Nat) : Int))] RG e35.r ?_
          refine xAe (lds := [2]) ?_
          refine wpq_then ?_
          refine xSq ?_
          refine xSq ?_
          refine xRg ?_
          refine xB 3 [] [(1, vs Ap p cp), (6, vp bd11 0), (8, vi ((s23.1 : Nat) : Int)), (10, vy ((List.getD (List.drop ((IntKind.i64.wrap (9 + (IntKind.i64.wrap (9 * ((s23.1 : Nat) : Int)))))).toNat p) 0 0).toNat : Int)), (11, vi y33), (82, vi (((d11.conds).length : Nat) : Int)), (83, vi ((s23.1 : Nat) : Int)), (99, vb (decide (((List.getD (List.drop ((IntKind.i64.wrap (9 + (IntKind.i64.wrap (9 * ((s23.1 : Nat) : Int)))))).toNat p) 0 0).toNat : Int) > 3)))] ?_
          refine wpr_grp 6 [(1, vs Ap p cp), (6, vp bd11 0), (8, vi ((s23.1 : Nat) : Int)), (10, vy ((List.getD (List.drop ((IntKind.i64.wrap (9 + (IntKind.i64.wrap (9 * ((s23.1 : Nat) : Int)))))).toNat p) 0 0).toNat : Int)), (11, vi y33), (82, vi (((d11.conds).length : Nat) : Int)), (83, vi ((s23.1 : Nat) : Int)), (102, vb (decide (((List.getD (List.drop ((IntKind.i64.wrap (9 + (IntKind.i64.wrap (9 * ((s23.1 : Nat) : Int)))))).toNat p) 0 0).toNat : Int) > 3) || (((List.getD (List.drop ((IntKind.i64.wrap (9 + (IntKind.i64.wrap (9 * ((s23.1 : Nat) : Int)))))).toNat p) 0 0).toNat : Int) == 2)))] (fun hk2 => ?_) ?_
          ·refine wpq_split 99 (b := decide (((List.getD (List.drop ((IntKind.i64.wrap (9 + (IntKind.i64.wrap (9 * ((s23.1 : Nat) : Int)))))).toNat p) 0 0).toNat : Int) > 3)) (by kernel_rfl) (fun q36 => ?_) (fun q36 => ?_)
           ·have q36p := of_decide_eq_true q36
            refine xB 3 [] [(1, vs Ap p cp), (6, vp bd11 0), (8, vi ((s23.1 : Nat) : Int)), (10, vy ((List.getD (List.drop ((IntKind.i64.wrap (9 + (IntKind.i64.wrap (9 * ((s23.1 : Nat) : Int)))))).toNat p) 0 0).toNat : Int)), (11, vi y33), (82, vi (((d11.conds).length : Nat) : Int)), (83, vi ((s23.1 : Nat) : Int)), (102, vb true)] ?_
            refine wpq_re 102 (v := vb true) (Value.bool ((decide (((List.getD (List.drop ((IntKind.i64.wrap (9 + (IntKind.i64.wrap (9 * ((s23.1 : Nat) : Int)))))).toNat p) 0 0).toNat : Int) > 3) || (((List.getD (List.drop ((IntKind.i64.wrap (9 + (IntKind.i64.wrap (9 * ((s23.1 : Nat) : Int)))))).toNat p) 0 0).toNat : Int) == 2)))) (by kernel_rfl) (re_or1 q36) ?_
            exact wpq_sub _ (by kernel_rfl) hk2
           ·have q36p := of_decide_eq_false q36
            refine xB 3 [] [(1, vs Ap p cp), (6, vp bd11 0), (8, vi ((s23.1 : Nat) : Int)), (10, vy ((List.getD (List.drop ((IntKind.i64.wrap (9 + (IntKind.i64.wrap (9 * ((s23.1 : Nat) : Int)))))).toNat p) 0 0).toNat : Int)), (11, vi y33), (82, vi (((d11.conds).length : Nat) : Int)), (83, vi ((s23.1 : Nat) : Int)), (102, vb (((List.getD (List.drop ((IntKind.i64.wrap (9 + (IntKind.i64.wrap (9 * ((s23.1 : Nat) : Int)))))).toNat p) 0 0).toNat : Int) == 2))] ?_
            refine wpq_re 102 (v := vb (((List.getD (List.drop ((IntKind.i64.wrap (9 + (IntKind.i64.wrap (9 * ((s23.1 : Nat) : Int)))))).toNat p) 0 0).toNat : Int) == 2)) (Value.bool ((decide (((List.getD (List.drop ((IntKind.i64.wrap (9 + (IntKind.i64.wrap (9 * ((s23.1 : Nat) : Int)))))).toNat p) 0 0).toNat : Int) > 3) || (((List.getD (List.drop ((IntKind.i64.wrap (9 + (IntKind.i64.wrap (9 * ((s23.1 : Nat) : Int)))))).toNat p) 0 0).toNat : Int) == 2)))) (by kernel_rfl) (re_or0 q36) ?_
            exact wpq_sub _ (by kernel_rfl) hk2
          ·refine xB 1 [] [(1, vs Ap p cp), (6, vp bd11 0), (8, vi ((s23.1 : Nat) : Int)), (10, vy ((List.getD (List.drop ((IntKind.i64.wrap (9 + (IntKind.i64.wrap (9 * ((s23.1 : Nat) : Int)))))).toNat p) 0 0).toNat : Int)), (11, vi y33), (82, vi (((d11.conds).length : Nat) : Int)), (83, vi ((s23.1 : Nat) : Int)), (103, vb (decide (((List.getD (List.drop ((IntKind.i64.wrap (9 + (IntKind.i64.wrap (9 * ((s23.1 : Nat) : Int)))))).toNat p) 0 0).toNat : Int) > 3) || (((List.getD (List.drop ((IntKind.i64.wrap (9 + (IntKind.i64.wrap (9 * ((s23.1 : Nat) : Int)))))).toNat p) 0 0).toNat : Int) == 2)))] ?_
           refine wpr_grp 14 [(1, vs Ap p cp), (6, vp bd11 0), (8, vi ((s23.1 : Nat) : Int)), (10, vy ((List.getD (List.drop ((IntKind.i64.wrap (9 + (IntKind.i64.wrap (9 * ((s23.1 : Nat) : Int)))))).toNat p) 0 0).toNat : Int)), (11, vi y33), (82, vi (((d11.conds).length : Nat) : Int)), (83, vi ((s23.1 : Nat) : Int)), (110, vb ((decide (((List.getD (List.drop ((IntKind.i64.wrap (9 + (IntKind.i64.wrap (9 * ((s23.1 : Nat) : Int)))))).toNat p) 0 0).toNat : Int) > 3) || (((List.getD (List.drop ((IntKind.i64.wrap (9 + (IntKind.i64.wrap (9 * ((s23.1 : Nat) : Int)))))).toNat p) 0 0).toNat : Int) == 2)) || ((((List.getD (List.drop ((IntKind.i64.wrap (9 + (IntKind.i64.wrap (9 * ((s23.1 : Nat) : Int)))))).toNat p) 0 0).toNat : Int) == 0) && (y33 != 0))))] (fun hk6 => ?_) ?_
           ·refine wpq_split 103 (b := (decide (((List.getD (List.drop ((IntKind.i64.wrap (9 + (IntKind.i64.wrap (9 * ((s23.1 : Nat) : Int)))))).toNat p) 0 0).toNat : Int) > 3) || (((List.getD (List.drop ((IntKind.i64.wrap (9 + (IntKind.i64.wrap (9 * ((s23.1 : Nat) : Int)))))).toNat p) 0 0).toNat : Int) == 2))) (by kernel_rfl) (fun q37 => ?_) (fun q37 => ?_)
            ·refine xB 7 [] [(1, vs Ap p cp), (6, vp bd11 0), (8, vi ((s23.1 : Nat) : Int)), (10, vy ((List.getD (List.drop ((IntKind.i64.wrap (9 + (IntKind.i64.wrap (9 * ((s23.1 : Nat) : Int)))))).toNat p) 0 0).toNat : Int)), (11, vi y33), (82, vi (((d11.conds).length : Nat) : Int)), (83, vi ((s23.1 : Nat) : Int)), (110, vb true)] ?_
             refine wpq_re 110 (v := vb true) (Value.bool (((decide (((List.getD (List.drop ((IntKind.i64.wrap (9 + (IntKind.i64.wrap (9 * ((s23.1 : Nat) : Int)))))).toNat p) 0 0).toNat : Int) > 3) || (((List.getD (List.drop ((IntKind.i64.wrap (9 + (IntKind.i64.wrap (9 * ((s23.1 : Nat) : Int)))))).toNat p) 0 0).toNat : Int) == 2)) || ((((List.getD (List.drop ((IntKind.i64.wrap (9 + (IntKind.i64.wrap (9 * ((s23.1 : Nat) : Int)))))).toNat p) 0 0).toNat : Int) == 0) && (y33 != 0))))) (by kernel_rfl) (re_or1 q37) ?_
             exact wpq_sub _ (by kernel_rfl) hk6
            ·have q37l := (or_false_ q37).1
             have q37r := (or_false_ q37).2
             have q37lp := of_decide_eq_false q37l
             have q37rp : ¬ (((List.getD (List.drop ((IntKind.i64.wrap (9 + (IntKind.i64.wrap (9 * ((s23.1 : Nat) : Int)))))).toNat p) 0 0).toNat : Int) = 2) := ne_of_beq_false_ q37r
             refine xB 3 [] [(1, vs Ap p cp), (6, vp bd11 0), (8, vi ((s23.1 : Nat) : Int)), (10, vy ((List.getD (List.drop ((IntKind.i64.wrap (9 + (IntKind.i64.wrap (9 * ((s23.1 : Nat) : Int)))))).toNat p) 0 0).toNat : Int)), (11, vi y33), (82, vi (((d11.conds).length : Nat) : Int)), (83, vi ((s23.1 : Nat) : Int)), (103, vb false), (106, vb (((List.getD (List.drop ((IntKind.i64.wrap (9 + (IntKind.i64.wrap (9 * ((s23.1 : Nat) : Int)))))).toNat p) 0 0).toNat : Int) == 0))] ?_
             refine wpr_grp 13 [(1, vs Ap p cp), (6, vp bd11 0), (8, vi ((s23.1 : Nat) : Int)), (10, vy ((List.getD (List.drop ((IntKind.i64.wrap (9 + (IntKind.i64.wrap (9 * ((s23.1 : Nat) : Int)))))).toNat p) 0 0).toNat : Int)), (11, vi y33), (82, vi (((d11.conds).length : Nat) : Int)), (83, vi ((s23.1 : Nat) : Int)), (103, vb false), (109, vb ((((List.getD (List.drop ((IntKind.i64.wrap (9 + (IntKind.i64.wrap (9 * ((s23.1 : Nat) : Int)))))).toNat p) 0 0).toNat : Int) == 0) && (y33 != 0)))] (fun hk9 => ?_) ?_
             ·refine wpq_split 106 (b := (((List.getD (List.drop ((IntKind.i64.wrap (9 + (IntKind.i64.wrap (9 * ((s23.1 : Nat) : Int)))))).toNat p) 0 0).toNat : Int) == 0)) (by kernel_rfl) (fun q38 => ?_) (fun q38 => ?_)
              ·have q38p : ((List.getD (List.drop ((IntKind.i64.wrap (9 + (IntKind.i64.wrap (9 * ((s23.1 : Nat) : Int)))))).toNat p) 0 0).toNat : Int) = 0 := eq_of_beq q38
               refine xB 3 [] [(1, vs Ap p cp), (6, vp bd11 0), (8, vi ((s23.1 : Nat) : Int)), (10, vy ((List.getD (List.drop ((IntKind.i64.wrap (9 + (IntKind.i64.wrap (9 * ((s23.1 : Nat) : Int)))))).toNat p) 0 0).toNat : Int)), (11, vi y33), (82, vi (((d11.conds).length : Nat) : Int)), (83, vi ((s23.1 : Nat) : Int)), (103, vb false), (109, vb (y33 != 0))] ?_
               refine wpq_re 109 (v := vb (y33 != 0)) (Value.bool (((((List.getD (List.drop ((IntKind.i64.wrap (9 + (IntKind.i64.wrap (9 * ((s23.1 : Nat) : Int)))))).toNat p) 0 0).toNat : Int) == 0) && (y33 != 0)))) (by kernel_rfl) (re_and1 q38) ?_
               exact wpq_sub _ (by kernel_rfl) hk9
              ·have q38p : ¬ (((List.getD (List.drop ((IntKind.i64.wrap (9 + (IntKind.i64.wrap (9 * ((s23.1 : Nat) : Int)))))).toNat p) 0 0).toNat : Int) = 0) := ne_of_beq_false_ q38
               refine xB 3 [] [(1, vs Ap p cp), (6, vp bd11 0), (8, vi ((s23.1 : Nat) : Int)), (10, vy ((List.getD (List.drop ((IntKind.i64.wrap (9 + (IntKind.i64.wrap (9 * ((s23.1 : Nat) : Int)))))).toNat p) 0 0).toNat : Int)), (11, vi y33), (82, vi (((d11.conds).length : Nat) : Int)), (83, vi ((s23.1 : Nat) : Int)), (103, vb false), (109, vb false)] ?_
               refine wpq_re 109 (v := vb false) (Value.bool (((((List.getD (List.drop ((IntKind.i64.wrap (9 + (IntKind.i64.wrap (9 * ((s23.1 : Nat) : Int)))))).toNat p) 0 0).toNat : Int) == 0) && (y33 != 0)))) (by kernel_rfl) (re_and0 q38) ?_
               exact wpq_sub _ (by kernel_rfl) hk9
             ·refine xB 1 [] [(1, vs Ap p cp), (6, vp bd11 0), (8, vi ((s23.1 : Nat) : Int)), (10, vy ((List.getD (List.drop ((IntKind.i64.wrap (9 + (IntKind.i64.wrap (9 * ((s23.1 : Nat) : Int)))))).toNat p) 0 0).toNat : Int)), (11, vi y33), (82, vi (((d11.conds).length : Nat) : Int)), (83, vi ((s23.1 : Nat) : Int)), (110, vb ((((List.getD (List.drop ((IntKind.i64.wrap (9 + (IntKind.i64.wrap (9 * ((s23.1 : Nat) : Int)))))).toNat p) 0 0).toNat : Int) == 0) && (y33 != 0)))] ?_
              refine wpq_re 110 (v := vb ((((List.getD (List.drop ((IntKind.i64.wrap (9 + (IntKind.i64.wrap (9 * ((s23.1 : Nat) : Int)))))).toNat p) 0 0).toNat : Int) == 0) && (y33 != 0))) (Value.bool (((decide (((List.getD (List.drop ((IntKind.i64.wrap (9 + (IntKind.i64.wrap (9 * ((s23.1 : Nat) : Int)))))).toNat p) 0 0).toNat : Int) > 3) || (((List.getD (List.drop ((IntKind.i64.wrap (9 + (IntKind.i64.wrap (9 * ((s23.1 : Nat) : Int)))))).toNat p) 0 0).toNat : Int) == 2)) || ((((List.getD (List.drop ((IntKind.i64.wrap (9 + (IntKind.i64.wrap (9 * ((s23.1 : Nat) : Int)))))).toNat p) 0 0).toNat : Int) == 0) && (y33 != 0))))) (by kernel_rfl) (re_or0 q37) ?_
              exact wpq_sub _ (by kernel_rfl) hk6
           ·refine xB 1 [] [(1, vs Ap p cp), (6, vp bd11 0), (8, vi ((s23.1 : Nat) : Int)), (10, vy ((List.getD (List.drop ((IntKind.i64.wrap (9 + (IntKind.i64.wrap (9 * ((s23.1 : Nat) : Int)))))).toNat p) 0 0).toNat : Int)), (11, vi y33), (82, vi (((d11.conds).length : Nat) : Int)), (83, vi ((s23.1 : Nat) : Int)), (111, vb ((decide (((List.getD (List.drop ((IntKind.i64.wrap (9 + (IntKind.i64.wrap (9 * ((s23.1 : Nat) : Int)))))).toNat p) 0 0).toNat : Int) > 3) || (((List.getD (List.drop ((IntKind.i64.wrap (9 + (IntKind.i64.wrap (9 * ((s23.1 : Nat) : Int)))))).toNat p) 0 0).toNat : Int) == 2)) || ((((List.getD (List.drop ((IntKind.i64.wrap (9 + (IntKind.i64.wrap (9 * ((s23.1 : Nat) : Int)))))).toNat p) 0 0).toNat : Int) == 0) && (y33 != 0))))] ?_
            refine wpr_grp 30 [(1, vs Ap p cp), (6, vp bd11 0), (8, vi ((s23.1 : Nat) : Int)), (10, vy ((List.getD (List.drop ((IntKind.i64.wrap (9 + (IntKind.i64.wrap (9 * ((s23.1 : Nat) : Int)))))).toNat p) 0 0).toNat : Int)), (11, vi y33), (82, vi (((d11.conds).length : Nat) : Int)), (83, vi ((s23.1 : Nat) : Int)), (126, vb (((decide (((List.getD (List.drop ((IntKind.i64.wrap (9 + (IntKind.i64.wrap (9 * ((s23.1 : Nat) : Int)))))).toNat p) 0 0).toNat : Int) > 3) || (((List.getD (List.drop ((IntKind.i64.wrap (9 + (IntKind.i64.wrap (9 * ((s23.1 : Nat) : Int)))))).toNat p) 0 0).toNat : Int) == 2)) || ((((List.getD (List.drop ((IntKind.i64.wrap (9 + (IntKind.i64.wrap (9 * ((s23.1 : Nat) : Int)))))).toNat p) 0 0).toNat : Int) == 0) && (y33 != 0))) || ((((List.getD (List.drop ((IntKind.i64.wrap (9 + (IntKind.i64.wrap (9 * ((s23.1 : Nat) : Int)))))).toNat p) 0 0).toNat : Int) != 0) && (decide (y33 < 1) || decide (y33 > y8)))))] (fun hk14 => ?_) ?_
            ·refine wpq_split 111 (b := ((decide (((List.getD (List.drop ((IntKind.i64.wrap (9 + (IntKind.i64.wrap (9 * ((s23.1 : Nat) : Int)))))).toNat p) 0 0).toNat : Int) > 3) || (((List.getD (List.drop ((IntKind.i64.wrap (9 + (IntKind.i64.wrap (9 * ((s23.1 : Nat) : Int)))))).toNat p) 0 0).toNat : Int) == 2)) || ((((List.getD (List.drop ((IntKind.i64.wrap (9 + (IntKind.i64.wrap (9 * ((s23.1 : Nat) : Int)))))).toNat p) 0 0).toNat : Int) == 0) && (y33 != 0)))) (by kernel_rfl) (fun q39 => ?_) (fun q39 => ?_)
             ·refine xB 15 [] [(1, vs Ap p cp), (6, vp bd11 0), (8, vi ((s23.1 : Nat) : Int)), (10, vy ((List.getD (List.drop ((IntKind.i64.wrap (9 + (IntKind.i64.wrap (9 * ((s23.1 : Nat) : Int)))))).toNat p) 0 0).toNat : Int)), (11, vi y33), (82, vi (((d11.conds).length : Nat) : Int)), (83, vi ((s23.1 : Nat) : Int)), (126, vb true)] ?_
              refine wpq_re 126 (v := vb true) (Value.bool ((((decide (((List.getD (List.drop ((IntKind.i64.wrap (9 + (IntKind.i64.wrap (9 * ((s23.1 : Nat) : Int)))))).toNat p) 0 0).toNat : Int) > 3) || (((List.getD (List.drop ((IntKind.i64.wrap (9 + (IntKind.i64.wrap (9 * ((s23.1 : Nat) : Int)))))).toNat p) 0 0).toNat : Int) == 2)) || ((((List.getD (List.drop ((IntKind.i64.wrap (9 + (IntKind.i64.wrap (9 * ((s23.1 : Nat) : Int)))))).toNat p) 0 0).toNat : Int) == 0) && (y33 != 0))) || ((((List.getD (List.drop ((IntKind.i64.wrap (9 + (IntKind.i64.wrap (9 * ((s23.1 : Nat) : Int)))))).toNat p) 0 0).toNat : Int) != 0) && (decide (y33 < 1) || decide (y33 > y8)))))) (by kernel_rfl) (re_or1 q39) ?_
              exact wpq_sub _ (by kernel_rfl) hk14
             ·have q39l := (or_false_ q39).1
              have q39r := (or_false_ q39).2
              have q39ll := (or_false_ q39l).1
              have q39lr := (or_false_ q39l).2
              have q39llp := of_decide_eq_false q39ll
              have q39lrp : ¬ (((List.getD (List.drop ((IntKind.i64.wrap (9 + (IntKind.i64.wrap (9 * ((s23.1 : Nat) : Int)))))).toNat p) 0 0).toNat : Int) = 2) := ne_of_beq_false_ q39lr
              refine xB 3 [] [(1, vs Ap p cp), (6, vp bd11 0), (8, vi ((s23.1 : Nat) : Int)), (10, vy ((List.getD (List.drop ((IntKind.i64.wrap (9 + (IntKind.i64.wrap (9 * ((s23.1 : Nat) : Int)))))).toNat p) 0 0).toNat : Int)), (11, vi y33), (82, vi (((d11.conds).length : Nat) : Int)), (83, vi ((s23.1 : Nat) : Int)), (111, vb false), (114, vb (((List.getD (List.drop ((IntKind.i64.wrap (9 + (IntKind.i64.wrap (9 * ((s23.1 : Nat) : Int)))))).toNat p) 0 0).toNat : Int) != 0))] ?_
              refine wpr_grp 29 [(1, vs Ap p cp), (6, vp bd11 0), (8, vi ((s23.1 : Nat) : Int)), (10, vy ((List.getD (List.drop ((IntKind.i64.wrap (9 + (IntKind.i64.wrap (9 * ((s23.1 : Nat) : Int)))))).toNat p) 0 0).toNat : Int)), (11, vi y33), (82, vi (((d11.conds).length : Nat) : Int)), (83, vi ((s23.1 : Nat) : Int)), (111, vb false), (125, vb ((((List.getD (List.drop ((IntKind.i64.wrap (9 + (IntKind.i64.wrap (9 * ((s23.1 : Nat) : Int)))))).toNat p) 0 0).toNat : Int) != 0) && (decide (y33 < 1) || decide (y33 > y8))))] (fun hk17 => ?_) ?_
              ·refine wpq_split 114 (b := (((List.getD (List.drop ((IntKind.i64.wrap (9 + (IntKind.i64.wrap (9 * ((s23.1 : Nat) : Int)))))).toNat p) 0 0).toNat : Int) != 0)) (by kernel_rfl) (fun q40 => ?_) (fun q40 => ?_)
               ·have q40p : ¬ (((List.getD (List.drop ((IntKind.i64.wrap (9 + (IntKind.i64.wrap (9 * ((s23.1 : Nat) : Int)))))).toNat p) 0 0).toNat : Int) = 0) := ne_of_bne_ q40
                refine xB 3 [] [(1, vs Ap p cp), (6, vp bd11 0), (8, vi ((s23.1 : Nat) : Int)), (10, vy ((List.getD (List.drop ((IntKind.i64.wrap (9 + (IntKind.i64.wrap (9 * ((s23.1 : Nat) : Int)))))).toNat p) 0 0).toNat : Int)), (11, vi y33), (82, vi (((d11.conds).length : Nat) : Int)), (83, vi ((s23.1 : Nat) : Int)), (111, vb false), (114, vb true), (117, vb (decide (y33 < 1)))] ?_
                refine wpr_grp 28 [(1, vs Ap p cp), (6, vp bd11 0), (8, vi ((s23.1 : Nat) : Int)), (10, vy ((List.getD (List.drop ((IntKind.i64.wrap (9 + (IntKind.i64.wrap (9 * ((s23.1 : Nat) : Int)))))).toNat p) 0 0).toNat : Int)), (11, vi y33), (82, vi (((d11.conds).length : Nat) : Int)), (83, vi ((s23.1 : Nat) : Int)), (111, vb false), (114, vb true), (124, vb (decide (y33 < 1) || decide (y33 > y8)))] (fun hk20 => ?_) ?_
                ·refine wpq_split 117 (b := decide (y33 < 1)) (by kernel_rfl) (fun q41 => ?_) (fun q41 => ?_)
                 ·have q41p := of_decide_eq_true q41
                  refine xB 7 [] [(1, vs Ap p cp), (6, vp bd11 0), (8, vi ((s23.1 : Nat) : Int)), (10, vy ((List.getD (List.drop ((IntKind.i64.wrap (9 + (IntKind.i64.wrap (9 * ((s23.1 : Nat) : Int)))))).toNat p) 0 0).toNat : Int)), (11, vi y33), (82, vi (((d11.conds).length : Nat) : Int)), (83, vi ((s23.1 : Nat) : Int)), (111, vb false), (114, vb true), (124, vb true)] ?_
                  refine wpq_re 124 (v := vb true) (Value.bool ((decide (y33 < 1) || decide (y33 > y8)))) (by kernel_rfl) (re_or1 q41) ?_
                  exact wpq_sub _ (by kernel_rfl) hk20
                 ·have q41p := of_decide_eq_false q41
                  refine xB 7 [(25, 0)] [(1, vs Ap p cp), (6, vp bd11 0), (8, vi ((s23.1 : Nat) : Int)), (10, vy ((List.getD (List.drop ((IntKind.i64.wrap (9 + (IntKind.i64.wrap (9 * ((s23.1 : Nat) : Int)))))).toNat p) 0 0).toNat : Int)), (11, vi y33), (82, vi (((d11.conds).length : Nat) : Int)), (83, vi ((s23.1 : Nat) : Int)), (111, vb false), (114, vb true), (124, vb (decide (y33 > y8)))] ?_
                  refine wpq_re 124 (v := vb (decide (y33 > y8))) (Value.bool ((decide (y33 < 1) || decide (y33 > y8)))) (by kernel_rfl) (re_or0 q41) ?_
                  exact wpq_sub _ (by kernel_rfl) hk20
                ·refine xB 1 [] [(1, vs Ap p cp), (6, vp bd11 0), (8, vi ((s23.1 : Nat) : Int)), (10, vy ((List.getD (List.drop ((IntKind.i64.wrap (9 + (IntKind.i64.wrap (9 * ((s23.1 : Nat) : Int)))))).toNat p) 0 0).toNat : Int)), (11, vi y33), (82, vi (((d11.conds).length : Nat) : Int)), (83, vi ((s23.1 : Nat) : Int)), (111, vb false), (125, vb (decide (y33 < 1) || decide (y33 > y8)))] ?_
                 refine wpq_re 125 (v := vb (decide (y33 < 1) || decide (y33 > y8))) (Value.bool (((((List.getD (List.drop ((IntKind.i64.wrap (9 + (IntKind.i64.wrap (9 * ((s23.1 : Nat) : Int)))))).toNat p) 0 0).toNat : Int) != 0) && (decide (y33 < 1) || decide (y33 > y8))))) (by kernel_rfl) (re_and1 q40) ?_
                 exact wpq_sub _ (by kernel_rfl) hk17
               ·have q40p : ((List.getD (List.drop ((IntKind.i64.wrap (9 + (IntKind.i64.wrap (9 * ((s23.1 : Nat) : Int)))))).toNat p) 0 0).toNat : Int) = 0 := eq_of_bne_false_ q40
                refine xB 11 [] [(1, vs Ap p cp), (6, vp bd11 0), (8, vi ((s23.1 : Nat) : Int)), (10, vy ((List.getD (List.drop ((IntKind.i64.wrap (9 + (IntKind.i64.wrap (9 * ((s23.1 : Nat) : Int)))))).toNat p) 0 0).toNat : Int)), (11, vi y33), (82, vi (((d11.conds).length : Nat) : Int)), (83, vi ((s23.1 : Nat) : Int)), (111, vb false), (125, vb false)] ?_
                refine wpq_re 125 (v := vb false) (Value.bool (((((List.getD (List.drop ((IntKind.i64.wrap (9 + (IntKind.i64.wrap (9 * ((s23.1 : Nat) : Int)))))).toNat p) 0 0).toNat : Int) != 0) && (decide (y33 < 1) || decide (y33 > y8))))) (by kernel_rfl) (re_and0 q40) ?_
                exact wpq_sub _ (by kernel_rfl) hk17
              ·refine xB 1 [] [(1, vs Ap p cp), (6, vp bd11 0), (8, vi ((s23.1 : Nat) : Int)), (10, vy ((List.getD (List.drop ((IntKind.i64.wrap (9 + (IntKind.i64.wrap (9 * ((s23.1 : Nat) : Int)))))).toNat p) 0 0).toNat : Int)), (11, vi y33), (82, vi (((d11.conds).length : Nat) : Int)), (83, vi ((s23.1 : Nat) : Int)), (126, vb ((((List.getD (List.drop ((IntKind.i64.wrap (9 + (IntKind.i64.wrap (9 * ((s23.1 : Nat) : Int)))))).toNat p) 0 0).toNat : Int) != 0) && (decide (y33 < 1) || decide (y33 > y8))))] ?_
               refine wpq_re 126 (v := vb ((((List.getD (List.drop ((IntKind.i64.wrap (9 + (IntKind.i64.wrap (9 * ((s23.1 : Nat) : Int)))))).toNat p) 0 0).toNat : Int) != 0) && (decide (y33 < 1) || decide (y33 > y8)))) (Value.bool ((((decide (((List.getD (List.drop ((IntKind.i64.wrap (9 + (IntKind.i64.wrap (9 * ((s23.1 : Nat) : Int)))))).toNat p) 0 0).toNat : Int) > 3) || (((List.getD (List.drop ((IntKind.i64.wrap (9 + (IntKind.i64.wrap (9 * ((s23.1 : Nat) : Int)))))).toNat p) 0 0).toNat : Int) == 2)) || ((((List.getD (List.drop ((IntKind.i64.wrap (9 + (IntKind.i64.wrap (9 * ((s23.1 : Nat) : Int)))))).toNat p) 0 0).toNat : Int) == 0) && (y33 != 0))) || ((((List.getD (List.drop ((IntKind.i64.wrap (9 + (IntKind.i64.wrap (9 * ((s23.1 : Nat) : Int)))))).toNat p) 0 0).toNat : Int) != 0) && (decide (y33 < 1) || decide (y33 > y8)))))) (by kernel_rfl) (re_or0 q39) ?_
               exact wpq_sub _ (by kernel_rfl) hk14
            ·refine xRe ?_
             refine wpq_then ?_
             refine xCd ((((decide (((List.getD (List.drop ((IntKind.i64.wrap (9 + (IntKind.i64.wrap (9 * ((s23.1 : Nat) : Int)))))).toNat p) 0 0).toNat : Int) > 3) || (((List.getD (List.drop ((IntKind.i64.wrap (9 + (IntKind.i64.wrap (9 * ((s23.1 : Nat) : Int)))))).toNat p) 0 0).toNat : Int) == 2)) || ((((List.getD (List.drop ((IntKind.i64.wrap (9 + (IntKind.i64.wrap (9 * ((s23.1 : Nat) : Int)))))).toNat p) 0 0).toNat : Int) == 0) && (y33 != 0))) || ((((List.getD (List.drop ((IntKind.i64.wrap (9 + (IntKind.i64.wrap (9 * ((s23.1 : Nat) : Int)))))).toNat p) 0 0).toNat : Int) != 0) && (decide (y33 < 1) || decide (y33 > y8))))) (fun h42 => ?_) (fun h42 => ?_)
             ·have hS := cond_T h42 hS
              refine xSq ?_
              refine xRg ?_
              refine xB 2 [] [(4, vn), (5, vi 4)] ?_
              refine xRe ?_
              refine wpq_then ?_
              have eS := (Option.some.inj hS).symm
              have eS := (hD23 _ eS).symm
              have eS := (hD18 _ eS).symm
              subst eS
              exact xRet [none, none] [4, 5] (e3.trans (e10.trans (e25.trans e35))) ⟨Value.pointer none, none, none, by kernel_rfl, by kernel_rfl, (fun _ => rfl), (fun _ h => by cases h)⟩ (fun _ _ h => h)
             ·have hS := cond_F h42 hS
              have h42l := (or_false_ h42).1
              have h42r := (or_false_ h42).2
              have h42ll := (or_false_ h42l).1
              have h42lr := (or_false_ h42l).2
              have h42lll := (or_false_ h42ll).1
              have h42llr := (or_false_ h42ll).2
              have h42lllp := of_decide_eq_false h42lll
              have h42llrp : ¬ (((List.getD (List.drop ((IntKind.i64.wrap (9 + (IntKind.i64.wrap (9 * ((s23.1 : Nat) : Int)))))).toNat p) 0 0).toNat : Int) = 2) := ne_of_beq_false_ h42llr
              refine xSk ?_
              refine wpq_then ?_
              refine xSub [(1, vs Ap p cp), (6, vp bd11 0), (8, vi ((s23.1 : Nat) : Int)), (10, vy ((List.getD (List.drop ((IntKind.i64.wrap (9 + (IntKind.i64.wrap (9 * ((s23.1 : Nat) : Int)))))).toNat p) 0 0).toNat : Int)), (11, vi y33), (82, vi (((d11.conds).length : Nat) : Int)), (83, vi ((s23.1 : Nat) : Int))] ?_
              refine xRg ?_
              have h23_1 := h23_1.mono e35.b
              obtain ⟨q44, hS⟩ := grd_T hS
              have q44p := of_decide_eq_true q44
              obtain ⟨kc43, cs43, hA43, hk43, hr43, hw43⟩ := h23_1.open_ q44p default
              obtain ⟨kb43, rfl⟩ : ∃ z, z = kc43 := ⟨_, rfl⟩
              subst hk43
              obtain ⟨rfl⟩ := hr43
              refine xB 9 [(3, 0)] [(1, vs Ap p cp), (6, vp bd11 0), (82, vi (((d11.conds).length : Nat) : Int)), (83, vi ((s23.1 : Nat) : Int)), (130, vs Ad11_conds s23.2 cd11_conds), (131, vi ((s23.1 : Nat) : Int)), (135, Value.agg #[vi y33, vb (((List.getD (List.drop ((IntKind.i64.wrap (9 + (IntKind.i64.wrap (9 * ((s23.1 : Nat) : Int)))))).toNat p) 0 0).toNat : Int) == 3)])] ?_
              refine xV (qIxB s23.1 2 kb43.g hA43 rfl q44p) ?_
              refine xD (eStB s23.1 2 0 1 [vi y33, vb (((List.getD (List.drop ((IntKind.i64.wrap (9 + (IntKind.i64.wrap (9 * ((s23.1 : Nat) : Int)))))).toNat p) 0 0).toNat : Int) == 3)] h23_1 rfl hw43 (show tyCnd.rep _ _ (⟨y33, (((List.getD (List.drop ((IntKind.i64.wrap (9 + (IntKind.i64.wrap (9 * ((s23.1 : Nat) : Int)))))).toNat p) 0 0).toNat : Int) == 3)⟩ : Cnd) from rfl) q44p) ?_
              rintro _ _ _ - ⟨k45, rfl, rfl, h45⟩
              have hz45 : (s23.2).length = ((List.set s23.2 s23.1 (⟨y33, (((List.getD (List.drop ((IntKind.i64.wrap (9 + (IntKind.i64.wrap (9 * ((s23.1 : Nat) : Int)))))).toNat p) 0 0).toNat : Int) == 3)⟩ : Cnd))).length := by simp
              refine xRe ?_
              refine wpq_blockN ?_
              refine wpq_then ?_
              refine xSub [(1, vs Ap p cp), (6, vp bd11 0), (82, vi (((d11.conds).length : Nat) : Int)), (83, vi ((s23.1 : Nat) : Int))] ?_
              refine xRg ?_
              obtain ⟨q46, hS⟩ := grd_T hS
              have q46p := of_decide_eq_true q46
              refine xV (qAdd .i64 (((s23.1 : Nat) : Int)) (1) (wr64 (by omega))) ?_
              refine xB 1 [] [(1, vs Ap p cp), (6, vp bd11 0), (82, vi (((d11.conds).length : Nat) : Int)), (83, vi (((s23.1 : Nat) : Int) + 1))] ?_
              refine xRe ?_
              refine wpq_thenN ?_
              refine xOwn [some ⟨bd11, 71, [vs Ad11_defs d11.defs cd11_defs, vi y8, vy ((List.getD p 8 0).toNat : Int), Value.slice Ad11_conds ((s23.2).length) cd11_conds]⟩, k45] ?_
              have h45 := Buf.re h45 hz45 (rfl : (List.set s23.2 s23.1 (⟨y33, (((List.getD (List.drop ((IntKind.i64.wrap (9 + (IntKind.i64.wrap (9 * ((s23.1 : Nat) : Int)))))).toNat p) 0 0).toNat : Int) == 3)⟩ : Cnd)) = _)
              refine wpq_own [some ⟨bd11, 71, (cBoard (⟨d11.defs, y8, ((List.getD p 8 0).toNat : Int), (List.set s23.2 s23.1 (⟨y33, (((List.getD (List.drop ((IntKind.i64.wrap (9 + (IntKind.i64.wrap (9 * ((s23.1 : Nat) : Int)))))).toNat p) 0 0).toNat : Int) == 3)⟩ : Cnd))⟩ : Board) Ad11_defs cd11_defs Ad11_conds cd11_conds)⟩, k45] (by rw [hz45]) ?_
              refine xSub [(1, vs Ap p cp), (6, vp bd11 0), (82, vi (((d11.conds).length : Nat) : Int)), (83, vi (((s23.1 : Nat) : Int) + 1))] ?_
              have eS := (Option.some.inj hS).symm
              exact hN23 _ eS _ _ _ e35 ⟨k45, by kernel_rfl, by kernel_rfl, h45⟩
         ·have hS := cond_F h26 hS
          have h26p := of_decide_eq_false h26
          refine xEx 0 ?_
          refine wpq_thenX ?_
          refine wpq_thenX ?_
          refine wpq_blockE ?_
          refine xSub [(6, vp bd11 0)] ?_
          have eS := (Option.some.inj hS).symm
          have eS := (hD23 _ eS).symm
          exact hN18 _ eS _ _ _ e25 ⟨k23_1, by kernel_rfl, by kernel_rfl, h23_1⟩

def o51_L0 (b : RBoard) (s7 : (List Int) × Nat) : Option (Ctl ((List Int) × Nat) ((List Int))) :=
 (cond (decide (((s7.2 : Nat) : Int) < (((b.defs).length : Nat) : Int))) (grd (decide (s7.2 < (b.onset).length)) (bindO (τ := (List Int)) (cond (decide ((List.getD b.onset s7.2 0) > 0)) (grd (decide (((s7.1).length + (([(((s7.2 : Nat) : Int) : Int)] : List Int)).length) * 8 ≤ 140737488355328)) (some (((s7.1 ++ ([(((s7.2 : Nat) : Int) : Int)] : List Int)) : List Int)))) (some ((s7.1 : List Int)))) fun t13 => (grd (decide (((s7.2 : Nat) : Int) + 1 ≤ 9223372036854775807)) (some (Ctl.go ((t13 : List Int), (s7.2 + 1))))))) (some (Ctl.done ((s7.1 : List Int)))))
def o51 (b : RBoard) : Option ((List Int)) :=
 (bindO (τ := (List Int)) (loopO (σ := (List Int) × Nat) (ρ := (List Int)) fuelN (o51_L0 b) (([] : List Int), 0)) fun t2 => (some ((t2 : List Int))))
set_option maxRecDepth 100000 in
theorem c51 (g : Gh) (b : RBoard) (Ab_defs : Option Addr) (cb_defs : Nat) (Ab_onset : Option Addr) (cb_onset : Nat) (Ab_acked : Option Addr) (cb_acked : Nat) (fb_defs : Arr g.r tyAlertDef Ab_defs cb_defs b.defs) (fb_onset : Arr g.r (tyI .i64) Ab_onset cb_onset b.onset) (fb_acked : Arr g.r tyB Ab_acked cb_acked b.acked) {r : (List Int)} (hS : o51 b = some r) :
  Ctr Try.prog 51 [Value.agg #[vs Ab_defs b.defs cb_defs, vi b.steps, vy b.phase, vs Ab_onset b.onset cb_onset, vs Ab_acked b.acked cb_acked]] g [] (fun v ψ o => ∃ (Ar_0 : Option Addr) (cr_0 : Nat) (kr_0 : Option Bk), v = vs Ar_0 r cr_0 ∧ o = [kr_0] ∧ Buf ψ (tyI .i64) 3 (.slice Ar_0 (r).length cr_0) kr_0 r) := by
 unfold o51 at hS
 refine xFn Try.f51 (Try.f51.body.getD .skip) 23 ?_
 have nfb_defs := fb_defs.len
 have nfb_onset := fb_onset.len
 have nfb_acked := fb_acked.len
 refine xSq ?_
 refine xRg ?_
 refine xE eB ?_
 rintro _ _ _ - ⟨b1, rfl, rfl, rfl⟩
 refine xB 1 [] [(1, vp b1 0)] ?_
 refine xRe ?_
 refine wpq_then ?_
 refine xSq ?_
 refine xRg ?_
 refine xB 1 [] [(1, vp b1 0), (3, Value.slice none 0 0)] ?_
 refine xRe ?_
 refine wpq_then ?_
 refine xSq ?_
 refine xSq ?_
 refine xRg ?_
 refine xB 4 [(1, 0)] [(1, vp b1 0), (3, Value.slice none 0 0), (7, vi (((b.defs).length : Nat) : Int)), (8, vi 0)] ?_
 refine xRe ?_
 refine wpq_then ?_
 refine xBindO hS (fun g own sl t2 => ∃ (A2_0 : Option Addr) (c2_0 : Nat) (k2_0 : Option Bk), own = [k2_0] ∧ sl = [(3, vs A2_0 t2 c2_0)] ∧ Buf g.b (tyI .i64) 3 (.slice A2_0 (t2).length c2_0) k2_0 t2) ?_ ?_
 ·rintro g3 _ _ t2 e4 ⟨A2_0, c2_0, k2_0, rfl, rfl, h2_0⟩ hS
  have nh2_0 := h2_0.len
  refine wpq_then ?_
  refine xSq ?_
  refine xRg ?_
  refine xB 2 [] [(2, vs A2_0 t2 c2_0)] ?_
  refine xRe ?_
  refine wpq_then ?_
  have eS := (Option.some.inj hS).symm
  subst eS
  exact xRet [some 0] [2] e4 ⟨A2_0, c2_0, k2_0, by kernel_rfl, by kernel_rfl, h2_0⟩ (fun _ _ h => h)
 ·intro uu2 hS hN2
  refine xBl 0 ?_
  refine xSel [some 0, none] ?_
  refine xSub [(1, vp b1 0), (3, Value.slice none 0 0), (7, vi (((b.defs).length : Nat) : Int)), (8, vi 0)] ?_
  refine xLo hS (fun g own sl s7 => ∃ (A7_0 : Option Addr) (c7_0 : Nat) (k7_0 : Option Bk), own = [some ⟨b1, 57, (cRBoard b Ab_defs cb_defs Ab_onset cb_onset Ab_acked cb_acked)⟩, k7_0] ∧ sl = [(1, vp b1 0), (3, vs A7_0 s7.1 c7_0), (7, vi (((b.defs).length : Nat) : Int)), (8, vi ((s7.2 : Nat) : Int))] ∧ Buf g.b (tyI .i64) 3 (.slice A7_0 (s7.1).length c7_0) k7_0 s7.1) ⟨none, 0, none, by kernel_rfl, by kernel_rfl, Buf.nil⟩ ?_
  rintro g8 _ _ s7 uu7 e9 ⟨A7_0, c7_0, k7_0, rfl, rfl, h7_0⟩ hS Qr7 hN7 hD7
  have nh7_0 := h7_0.len
  unfold o51_L0 at hS
  refine xSq ?_
  refine xRg ?_
  refine xB 1 [] [(1, vp b1 0), (3, vs A7_0 s7.1 c7_0), (7, vi (((b.defs).length : Nat) : Int)), (8, vi ((s7.2 : Nat) : Int)), (9, vb (decide (((s7.2 : Nat) : Int) < (((b.defs).length : Nat) : Int))))] ?_
  refine xRe ?_
  refine wpq_then ?_
  refine xSq ?_
  refine xCd (decide (((s7.2 : Nat) : Int) < (((b.defs).length : Nat) : Int))) (fun h10 => ?_) (fun h10 => ?_)
  ·have hS := cond_T h10 hS
   have h10p := of_decide_eq_true h10
   refine xSk ?_
   refine wpq_then ?_
   refine xSub [(1, vp b1 0), (3, vs A7_0 s7.1 c7_0), (7, vi (((b.defs).length : Nat) : Int)), (8, vi ((s7.2 : Nat) : Int))] ?_
   refine xSq ?_
   refine xBl 1 ?_
   refine xSq ?_
   refine xRg ?_
   refine xB 2 [] [(1, vp b1 0), (3, vs A7_0 s7.1 c7_0), (4, vi ((s7.2 : Nat) : Int)), (7, vi (((b.defs).length : Nat) : Int)), (8, vi ((s7.2 : Nat) : Int))] ?_
   refine xRe ?_
   refine wpq_then ?_
   refine xSq ?_
   refine xRg ?_
   have fb_onset := fb_onset.mono e9.r
   obtain ⟨q12, hS⟩ := grd_T hS
   have q12p := of_decide_eq_true q12
   obtain ⟨ad11, cs11, hA11, hr11, hc11⟩ := fb_onset.at_ (get_getD (d := 0) q12p)
   have hr11 : cs11 = [vi (List.getD b.onset s7.2 0)] := hr11
   subst hr11
   refine xB 3 [(1, 0)] [(1, vp b1 0), (3, vs A7_0 s7.1 c7_0), (4, vi ((s7.2 : Nat) : Int)), (7, vi (((b.defs).length : Nat) : Int)), (8, vi ((s7.2 : Nat) : Int)), (12, vs Ab_onset b.onset cb_onset), (13, vi ((s7.2 : Nat) : Int))] ?_
   refine xV (qIx s7.2 1 hA11 rfl q12p) ?_
   refine xV (qLdP (Addr.add ad11 (s7.2 * 1)) 0 hc11) ?_
   refine xB 1 [] [(1, vp b1 0), (3, vs A7_0 s7.1 c7_0), (4, vi ((s7.2 : Nat) : Int)), (7, vi (((b.defs).length : Nat) : Int)), (8, vi ((s7.2 : Nat) : Int)), (16, vb (decide ((List.getD b.onset s7.2 0) > 0)))] ?_
   refine xRe ?_
   refine wpq_then ?_
   refine xBindO hS (fun g own sl t13 => ∃ (A13_0 : Option Addr) (c13_0 : Nat) (k13_0 : Option Bk), own = [some ⟨b1, 57, (cRBoard b Ab_defs cb_defs Ab_onset cb_onset Ab_acked cb_acked)⟩, k13_0] ∧ sl = [(1, vp b1 0), (3, vs A13_0 t13 c13_0), (7, vi (((b.defs).length : Nat) : Int)), (8, vi ((s7.2 : Nat) : Int))] ∧ Buf g.b (tyI .i64) 3 (.slice A13_0 (t13).length c13_0) k13_0 t13) ?_ ?_
   ·rintro g14 _ _ t13 e15 ⟨A13_0, c13_0, k13_0, rfl, rfl, h13_0⟩ hS
    have nh13_0 := h13_0.len
    refine wpq_blockN ?_
    refine wpq_then ?_
    refine xRg ?_
    obtain ⟨q16, hS⟩ := grd_T hS
    have q16p := of_decide_eq_true q16
    refine xV (qAdd .i64 (((s7.2 : Nat) : Int)) (1) (wr64 (by omega))) ?_
    refine xB 1 [] [(1, vp b1 0), (3, vs A13_0 t13 c13_0), (7, vi (((b.defs).length : Nat) : Int)), (8, vi (((s7.2 : Nat) : Int) + 1))] ?_
    refine xRe ?_
    refine wpq_thenN ?_
    refine xSub [(1, vp b1 0), (3, vs A13_0 t13 c13_0), (7, vi (((b.defs).length : Nat) : Int)), (8, vi (((s7.2 : Nat) : Int) + 1))] ?_
    have eS := (Option.some.inj hS).symm
    exact hN7 _ eS _ _ _ e15 ⟨A13_0, c13_0, k13_0, by kernel_rfl, by kernel_rfl, h13_0⟩
   ·intro uu13 hS hN13
    refine xCd (decide ((List.getD b.onset s7.2 0) > 0)) (fun h17 => ?_) (fun h17 => ?_)
    ·have hS := cond_T h17 hS
     have h17p := of_decide_eq_true h17
     refine xRg ?_
     refine xB 2 [] [(1, vp b1 0), (3, vs A7_0 s7.1 c7_0), (7, vi (((b.defs).length : Nat) : Int)), (8, vi ((s7.2 : Nat) : Int)), (17, vs A7_0 s7.1 c7_0), (18, vi ((s7.2 : Nat) : Int))] ?_
     refine xE (eBs (T := (tyI .i64)) (p := g8.b) (et := 3) (xs := ([(((s7.2 : Nat) : Int) : Int)] : List Int)) (reps_cons (c := [vi ((s7.2 : Nat) : Int)]) (show (tyI .i64).rep _ _ _ from rfl) reps_nil) (by simp)) ?_
     rintro _ _ _ - ⟨A18, c18, k18, rfl, rfl, rfl, h18⟩
     obtain ⟨nw19, hp19, hs19⟩ := h18.srcO (g := g8)
     obtain ⟨q20, hS⟩ := grd_T hS
     have q20p := of_decide_eq_true q20
     refine xE (eApp (T := (tyI .i64)) (p := g8.b) (et := 3) (bytes := 8) (xs := (s7.1 : List Int)) (ys := (([(((s7.2 : Nat) : Int) : Int)] : List Int) : List Int)) 2 h7_0 rfl (fun w hs => hs19 0 w _ hs (by kernel_rfl)) hp19 (by first | omega | (simp only [List.length_cons, List.length_nil] at *; omega)) (by first | omega | (simp only [List.length_cons, List.length_nil] at *; omega))) ?_
     rintro _ _ _ - ⟨A19, c19, k19, rfl, rfl, rfl, h19⟩
     have nh19 := h19.len
     have hz19 : ((s7.1 ++ ([(((s7.2 : Nat) : Int) : Int)] : List Int)) : List Int).length = (s7.1).length + (([(((s7.2 : Nat) : Int) : Int)] : List Int)).length := List.length_append
     refine xB 1 [] [(1, vp b1 0), (3, vs A19 (s7.1 ++ ([(((s7.2 : Nat) : Int) : Int)] : List Int)) c19), (7, vi (((b.defs).length : Nat) : Int)), (8, vi ((s7.2 : Nat) : Int))] ?_
     refine xRe ?_
     refine xSel [some 1, some 2] ?_
     refine xSub [(1, vp b1 0), (3, vs A19 (s7.1 ++ ([(((s7.2 : Nat) : Int) : Int)] : List Int)) c19), (7, vi (((b.defs).length : Nat) : Int)), (8, vi ((s7.2 : Nat) : Int))] ?_
     have eS := (Option.some.inj hS).symm
     exact hN13 _ eS _ _ _ (Gh.le.refl _) ⟨A19, c19, k19, by kernel_rfl, by kernel_rfl, h19⟩
    ·have hS := cond_F h17 hS
     have h17p := of_decide_eq_false h17
     refine xSk ?_
     refine xSub [(1, vp b1 0), (3, vs A7_0 s7.1 c7_0), (7, vi (((b.defs).length : Nat) : Int)), (8, vi ((s7.2 : Nat) : Int))] ?_
     have eS := (Option.some.inj hS).symm
     exact hN13 _ eS _ _ _ (Gh.le.refl _) ⟨A7_0, c7_0, k7_0, by kernel_rfl, by kernel_rfl, h7_0⟩
  ·have hS := cond_F h10 hS
   have h10p := of_decide_eq_false h10
   refine xEx 0 ?_
   refine wpq_thenX ?_
   refine wpq_thenX ?_
   refine wpq_blockE ?_
   refine xSel [some 1] ?_
   refine xSub [(3, vs A7_0 s7.1 c7_0)] ?_
   have eS := (Option.some.inj hS).symm
   have eS := (hD7 _ eS).symm
   exact hN2 _ eS _ _ _ e9 ⟨A7_0, c7_0, k7_0, by kernel_rfl, by kernel_rfl, h7_0⟩

def o52 (b : RBoard) : Option (Int) :=
 (bindO (τ := (List Int)) (o50 b) fun y2 => (cond (((((y2).length : Nat) : Int) == 0)) (some ((0 : Int))) (grd (decide (0 ≤ (List.getD y2 0 0) ∧ (List.getD y2 0 0) < (((b.defs).length : Nat) : Int))) (some (((List.getD b.defs ((List.getD y2 0 0)).toNat default).level : Int))))))
set_option maxRecDepth 100000 in
theorem c52 (g : Gh) (b : RBoard) (Ab_defs : Option Addr) (cb_defs : Nat) (Ab_onset : Option Addr) (cb_onset : Nat) (Ab_acked : Option Addr) (cb_acked : Nat) (fb_defs : Arr g.r tyAlertDef Ab_defs cb_defs b.defs) (fb_onset : Arr g.r (tyI .i64) Ab_onset cb_onset b.onset) (fb_acked : Arr g.r tyB Ab_acked cb_acked b.acked) {r : Int} (hS : o52 b = some r) :
  Ctr Try.prog 52 [Value.agg #[vs Ab_defs b.defs cb_defs, vi b.steps, vy b.phase, vs Ab_onset b.onset cb_onset, vs Ab_acked b.acked cb_acked]] g [] (fun v ψ o => v = vy r ∧ o = []) := by
 unfold o52 at hS
 refine xFn Try.f52 (Try.f52.body.getD .skip) 17 ?_
 have nfb_defs := fb_defs.len
 have nfb_onset := fb_onset.len
 have nfb_acked := fb_acked.len
 refine xSq ?_
 refine xRg ?_
 refine xE eB ?_
 rintro _ _ _ - ⟨b1, rfl, rfl, rfl⟩
 refine xB 1 [] [(1, vp b1 0)] ?_
 refine xRe ?_
 refine wpq_then ?_
 refine xSq ?_
 refine xRg ?_
 refine xB 1 [(0, 0)] [(1, vp b1 0), (4, Value.agg #[vs Ab_defs b.defs cb_defs, vi b.steps, vy b.phase, vs Ab_onset b.onset cb_onset, vs Ab_acked b.acked cb_acked])] ?_
 obtain ⟨y2, hy2, hS⟩ := bindO_T hS
 refine xE (eC 0 (fun g' lr eb ln => c50 g' b Ab_defs cb_defs Ab_onset cb_onset Ab_acked cb_acked (fb_defs.mono lr) (fb_onset.mono lr) (fb_acked.mono lr) hy2)) ?_
 rintro _ g3 _ e4 ⟨_, rfl, A2_0, c2_0, k2_0, rfl, rfl, h2_0⟩
 have nh2_0 := h2_0.len
 refine xB 1 [] [(1, vp b1 0), (3, vs A2_0 y2 c2_0)] ?_
 refine xRe ?_
 refine wpq_then ?_
 refine xSq ?_
 refine xSq ?_
 refine xRg ?_
 refine xB 3 [] [(1, vp b1 0), (3, vs A2_0 y2 c2_0), (8, vb ((((y2).length : Nat) : Int) == 0))] ?_
 refine xRe ?_
 refine wpq_then ?_
 refine xCd (((((y2).length : Nat) : Int) == 0)) (fun h5 => ?_) (fun h5 => ?_)
 ·have hS := cond_T h5 hS
  have h5p : (((y2).length : Nat) : Int) = 0 := eq_of_beq h5
  refine xSq ?_
  refine xRg ?_
  refine xB 1 [] [(2, vy 0)] ?_
  refine xRe ?_
  refine wpq_then ?_
  have eS := (Option.some.inj hS).symm
  subst eS
  exact xRet [] [2] e4 ⟨by kernel_rfl, by kernel_rfl⟩ (fun _ _ h => h)
 ·have hS := cond_F h5 hS
  have h5p : ¬ ((((y2).length : Nat) : Int) = 0) := ne_of_beq_false_ h5
  refine xSk ?_
  refine wpq_then ?_
  refine xSub [(1, vp b1 0), (3, vs A2_0 y2 c2_0)] ?_
  refine xSq ?_
  refine xDr 0 [1, 4, 7] [8] [k2_0, some ⟨b1, 57, (cRBoard b Ab_defs cb_defs Ab_onset cb_onset Ab_acked cb_acked)⟩] 9 (fun RG => ?_) (fun _ _ _ _ _ h => h)
  have i7 : 0 < (y2).length := by omega
  obtain ⟨kc6, cs6, hA6, hk6, hr6, hw6⟩ := h2_0.open_ i7 0
  obtain ⟨kb6, rfl⟩ : ∃ z, z = kc6 := ⟨_, rfl⟩
  subst hk6
  have hr6 : cs6 = [vi (List.getD y2 0 0)] := hr6
  subst hr6
  refine xT 6 [0, 1, 2] [(1, 1)] [some 0, some 1] [(10, vs Ab_defs b.defs cb_defs), (11, vs A2_0 y2 c2_0)] RG (Psi.le.refl _) ?_
  refine xTp 3 RG (fun _ => (qIxB 0 1 kb6.g hA6 rfl i7)) ?_
  refine xTv 4 [some 0, some 1] RG (Psi.le.refl _) (qLdB 0 1 0 0 hw6) ?_
  have fb_defs := fb_defs.mono e4.r
  obtain ⟨q9, hS⟩ := grd_T hS
  have q9p := of_decide_eq_true q9
  have i10 : ((List.getD y2 0 0)).toNat < (b.defs).length := by omega
  obtain ⟨ad8, cs8, hA8, hr8, hc8⟩ := fb_defs.at_ (get_getD (d := default) i10)
  obtain ⟨rfl⟩ := hr8
  refine xTp 5 RG (fun _ => (qIx ((List.getD y2 0 0)).toNat 3 hA8 (show ((List.getD y2 0 0) : Int) = _ from by omega) i10)) ?_
  refine xT 2 [6] [] [some 0, some 1] [(15, Value.pointer (some (Addr.add (Addr.add ad8 (((List.getD y2 0 0)).toNat * 3)) 1)))] RG (Psi.le.refl _) ?_
  refine xTv 7 [some 0, some 1] RG (Psi.le.refl _) (qLdP (Addr.add ad8 (((List.getD y2 0 0)).toNat * 3)) 1 hc8) ?_
  refine xT 0 [8] [] [some 0, some 1] [(2, vy ((List.getD b.defs ((List.getD y2 0 0)).toNat default).level))] RG (Psi.le.refl _) ?_
  refine xAe (lds := [1, 4, 7]) ?_
  refine wpq_then ?_
  have eS := (Option.some.inj hS).symm
  subst eS
  exact xRet [] [2] e4 ⟨by kernel_rfl, by kernel_rfl⟩ (fun _ _ h => h)

def o20_L0 (b : Board) (y1 : (List Int)) (s9 : (List (List UInt8)) × Nat) : Option (Ctl ((List (List UInt8)) × Nat) ((List (List UInt8)))) :=
 (cond (decide (((s9.2 : Nat) : Int) < (((y1).length : Nat) : Int))) (grd (decide (0 ≤ (List.getD y1 s9.2 0) ∧ (List.getD y1 s9.2 0) < (((b.defs).length : Nat) : Int))) (grd (decide (((s9.1).length + (([((List.getD b.defs ((List.getD y1 s9.2 0)).toNat default).name : List UInt8)] : List (List UInt8))).length) * 16 ≤ 140737488355328)) (grd (decide (((s9.2 : Nat) : Int) + 1 ≤ 9223372036854775807)) (some (Ctl.go (((s9.1 ++ ([((List.getD b.defs ((List.getD y1 s9.2 0)).toNat default).name : List UInt8)] : List (List UInt8))) : List (List UInt8)), (s9.2 + 1))))))) (some (Ctl.done ((s9.1 : List (List UInt8))))))
def o20 (b : Board) : Option ((List (List UInt8))) :=
 (bindO (τ := (List Int)) (o19 b) fun y1 => (bindO (τ := (List (List UInt8))) (loopO (σ := (List (List UInt8)) × Nat) (ρ := (List (List UInt8))) fuelN (o20_L0 b y1) (([] : List (List UInt8)), 0)) fun t4 => (some ((t4 : List (List UInt8))))))
set_option maxRecDepth 100000 in
theorem c20 (g : Gh) (a_b : Addr) (b : Board) (Ab_defs : Option Addr) (cb_defs : Nat) (Ab_conds : Option Addr) (cb_conds : Nat) (hc_b : Cells g.r a_b (cBoard b Ab_defs cb_defs Ab_conds cb_conds)) (fb_defs : Arr g.r tyAlertDef Ab_defs cb_defs b.defs) (fb_conds : ArrM g.r g.b tyCnd Ab_conds cb_conds b.conds) {r : (List (List UInt8))} (hS : o20 b = some r) :
  Ctr Try.prog 20 [Value.pointer (some a_b)] g [] (fun v ψ o => ∃ (Ar_0 : Option Addr) (cr_0 : Nat) (kr_0 : Option Bk), v = vs Ar_0 r cr_0 ∧ o = [kr_0] ∧ Buf ψ tyS 9 (.slice Ar_0 (r).length cr_0) kr_0 r) := by
 unfold o20 at hS
 refine xFn Try.f20 (Try.f20.body.getD .skip) 26 ?_
 have nfb_defs := fb_defs.len
 have nfb_conds := fb_conds.len
 refine xSq ?_
 refine xRg ?_
 refine xB 1 [] [(0, Value.pointer (some a_b))] ?_
 refine xRe ?_
 refine wpq_then ?_
 refine xSq ?_
 refine xRg ?_
 refine xB 1 [] [(0, Value.pointer (some a_b)), (3, Value.slice none 0 0)] ?_
 refine xRe ?_
 refine wpq_then ?_
 refine xSq ?_
 refine xSq ?_
 refine xRg ?_
 refine xB 1 [] [(0, Value.pointer (some a_b)), (3, Value.slice none 0 0), (6, Value.pointer (some a_b))] ?_
 obtain ⟨y1, hy1, hS⟩ := bindO_T hS
 refine xE (eC 0 (fun g' lr eb ln => c19 g' a_b b Ab_defs cb_defs Ab_conds cb_conds (hc_b.mono lr) (fb_defs.mono lr) (ArrM.lent fb_conds lr eb) hy1)) ?_
 rintro _ g2 _ e3 ⟨_, rfl, A1_0, c1_0, k1_0, rfl, rfl, h1_0⟩
 have nh1_0 := h1_0.len
 refine xB 2 [] [(0, Value.pointer (some a_b)), (3, Value.slice none 0 0), (7, vs A1_0 y1 c1_0), (8, vi (((y1).length : Nat) : Int)), (9, vi 0)] ?_
 refine xRe ?_
 refine wpq_then ?_
 refine xBindO hS (fun g own sl t4 => ∃ (A4_0 : Option Addr) (c4_0 : Nat) (k4_0 : Option Bk), own = [k4_0] ∧ sl = [(3, vs A4_0 t4 c4_0)] ∧ Buf g.b tyS 9 (.slice A4_0 (t4).length c4_0) k4_0 t4) ?_ ?_
 ·rintro g5 _ _ t4 e6 ⟨A4_0, c4_0, k4_0, rfl, rfl, h4_0⟩ hS
  have nh4_0 := h4_0.len
  refine wpq_then ?_
  refine xSq ?_
  refine xRg ?_
  refine xB 2 [] [(2, vs A4_0 t4 c4_0)] ?_
  refine xRe ?_
  refine wpq_then ?_
  have eS := (Option.some.inj hS).symm
  subst eS
  exact xRet [some 0] [2] (e3.trans e6) ⟨A4_0, c4_0, k4_0, by kernel_rfl, by kernel_rfl, h4_0⟩ (fun _ _ h => h)
 ·intro uu4 hS hN4
  refine xBl 0 ?_
  refine xSel [none, some 0] ?_
  refine xSub [(0, Value.pointer (some a_b)), (3, Value.slice none 0 0), (7, vs A1_0 y1 c1_0), (8, vi (((y1).length : Nat) : Int)), (9, vi 0)] ?_
  refine xLo hS (fun g own sl s9 => ∃ (A9_0 : Option Addr) (c9_0 : Nat) (k9_0 : Option Bk), own = [k9_0, k1_0] ∧ sl = [(0, Value.pointer (some a_b)), (3, vs A9_0 s9.1 c9_0), (7, vs A1_0 y1 c1_0), (8, vi (((y1).length : Nat) : Int)), (9, vi ((s9.2 : Nat) : Int))] ∧ Buf g.b tyS 9 (.slice A9_0 (s9.1).length c9_0) k9_0 s9.1) ⟨none, 0, none, by kernel_rfl, by kernel_rfl, Buf.nil⟩ ?_
  rintro g10 _ _ s9 uu9 e11 ⟨A9_0, c9_0, k9_0, rfl, rfl, h9_0⟩ hS Qr9 hN9 hD9
  have nh9_0 := h9_0.len
  unfold o20_L0 at hS
  refine xSq ?_
  refine xRg ?_
  refine xB 1 [] [(0, Value.pointer (some a_b)), (3, vs A9_0 s9.1 c9_0), (7, vs A1_0 y1 c1_0), (8, vi (((y1).length : Nat) : Int)), (9, vi ((s9.2 : Nat) : Int)), (10, vb (decide (((s9.2 : Nat) : Int) < (((y1).length : Nat) : Int))))] ?_
  refine xRe ?_
  refine wpq_then ?_
  refine xSq ?_
  refine xCd (decide (((s9.2 : Nat) : Int) < (((y1).length : Nat) : Int))) (fun h12 => ?_) (fun h12 => ?_)
  ·have hS := cond_T h12 hS
   have h12p := of_decide_eq_true h12
   refine xSk ?_
   refine wpq_then ?_
   refine xSub [(0, Value.pointer (some a_b)), (3, vs A9_0 s9.1 c9_0), (7, vs A1_0 y1 c1_0), (8, vi (((y1).length : Nat) : Int)), (9, vi ((s9.2 : Nat) : Int))] ?_
   refine xSq ?_
   refine xBl 1 ?_
   refine xSq ?_
   refine xRg ?_
   have h1_0 := h1_0.mono e11.b
   have i14 : s9.2 < (y1).length := by omega
   obtain ⟨kc13, cs13, hA13, hk13, hr13, hw13⟩ := h1_0.open_ i14 0
   obtain ⟨kb13, rfl⟩ : ∃ z, z = kc13 := ⟨_, rfl⟩
   subst hk13
   have hr13 : cs13 = [vi (List.getD y1 s9.2 0)] := hr13
   subst hr13
   refine xV (qIxB s9.2 1 kb13.g hA13 rfl i14) ?_
   refine xV (qLdB s9.2 1 0 1 hw13) ?_
   refine xB 1 [] [(0, Value.pointer (some a_b)), (3, vs A9_0 s9.1 c9_0), (5, vi (List.getD y1 s9.2 0)), (7, vs A1_0 y1 c1_0), (8, vi (((y1).length : Nat) : Int)), (9, vi ((s9.2 : Nat) : Int))] ?_
   refine xRe ?_
   refine wpq_then ?_
   refine xRg ?_
   have hc_b := hc_b.mono (e3.trans e11).r
   refine xB 4 [] [(0, Value.pointer (some a_b)), (3, vs A9_0 s9.1 c9_0), (5, vi (List.getD y1 s9.2 0)), (7, vs A1_0 y1 c1_0), (8, vi (((y1).length : Nat) : Int)), (9, vi ((s9.2 : Nat) : Int)), (13, vs A9_0 s9.1 c9_0), (16, Value.pointer (some a_b))] ?_
   refine xV (qLdP a_b 0 hc_b) ?_
   have fb_defs := fb_defs.mono (e3.trans e11).r
   obtain ⟨q16, hS⟩ := grd_T hS
   have q16p := of_decide_eq_true q16
   have i17 : ((List.getD y1 s9.2 0)).toNat < (b.defs).length := by omega
   obtain ⟨ad15, cs15, hA15, hr15, hc15⟩ := fb_defs.at_ (get_getD (d := default) i17)
   obtain ⟨rfl⟩ := hr15
   refine xB 1 [] [(0, Value.pointer (some a_b)), (3, vs A9_0 s9.1 c9_0), (7, vs A1_0 y1 c1_0), (8, vi (((y1).length : Nat) : Int)), (9, vi ((s9.2 : Nat) : Int)), (13, vs A9_0 s9.1 c9_0), (17, vs Ab_defs b.defs cb_defs), (18, vi (List.getD y1 s9.2 0))] ?_
   refine xV (qIx ((List.getD y1 s9.2 0)).toNat 3 hA15 (show ((List.getD y1 s9.2 0) : Int) = _ from by omega) i17) ?_
   refine xB 1 [] [(0, Value.pointer (some a_b)), (3, vs A9_0 s9.1 c9_0), (7, vs A1_0 y1 c1_0), (8, vi (((y1).length : Nat) : Int)), (9, vi ((s9.2 : Nat) : Int)), (13, vs A9_0 s9.1 c9_0), (20, Value.pointer (some (Addr.add ad15 (((List.getD y1 s9.2 0)).toNat * 3))))] ?_
   refine xV (qLdP (Addr.add ad15 (((List.getD y1 s9.2 0)).toNat * 3)) 0 hc15) ?_
   refine xE (eBs (T := tyS) (p := g10.b) (et := 9) (xs := ([((List.getD b.defs ((List.getD y1 s9.2 0)).toNat default).name : List UInt8)] : List (List UInt8))) (reps_cons (c := [vt ((List.getD b.defs ((List.getD y1 s9.2 0)).toNat default).name)]) (show tyS.rep _ _ _ from rfl) reps_nil) (by simp)) ?_
   rintro _ _ _ - ⟨A18, c18, k18, rfl, rfl, rfl, h18⟩
   obtain ⟨nw19, hp19, hs19⟩ := h18.srcO (g := g10)
   obtain ⟨q20, hS⟩ := grd_T hS
   have q20p := of_decide_eq_true q20
   refine xE (eApp (T := tyS) (p := g10.b) (et := 9) (bytes := 16) (xs := (s9.1 : List (List UInt8))) (ys := (([((List.getD b.defs ((List.getD y1 s9.2 0)).toNat default).name : List UInt8)] : List (List UInt8)) : List (List UInt8))) 1 h9_0 rfl (fun w hs => hs19 0 w _ hs (by kernel_rfl)) hp19 (by first | omega | (simp only [List.length_cons, List.length_nil] at *; omega)) (by first | omega | (simp only [List.length_cons, List.length_nil] at *; omega))) ?_
   rintro _ _ _ - ⟨A19, c19, k19, rfl, rfl, rfl, h19⟩
   have nh19 := h19.len
   have hz19 : ((s9.1 ++ ([((List.getD b.defs ((List.getD y1 s9.2 0)).toNat default).name : List UInt8)] : List (List UInt8))) : List (List UInt8)).length = (s9.1).length + (([((List.getD b.defs ((List.getD y1 s9.2 0)).toNat default).name : List UInt8)] : List (List UInt8))).length := List.length_append
   refine xB 1 [] [(0, Value.pointer (some a_b)), (3, vs A19 (s9.1 ++ ([((List.getD b.defs ((List.getD y1 s9.2 0)).toNat default).name : List UInt8)] : List (List UInt8))) c19), (7, vs A1_0 y1 c1_0), (8, vi (((y1).length : Nat) : Int)), (9, vi ((s9.2 : Nat) : Int))] ?_
   refine xRe ?_
   refine wpq_blockN ?_
   refine wpq_then ?_
   refine xRg ?_
   obtain ⟨q21, hS⟩ := grd_T hS
   have q21p := of_decide_eq_true q21
   refine xV (qAdd .i64 (((s9.2 : Nat) : Int)) (1) (wr64 (by omega))) ?_
   refine xB 1 [] [(0, Value.pointer (some a_b)), (3, vs A19 (s9.1 ++ ([((List.getD b.defs ((List.getD y1 s9.2 0)).toNat default).name : List UInt8)] : List (List UInt8))) c19), (7, vs A1_0 y1 c1_0), (8, vi (((y1).length : Nat) : Int)), (9, vi (((s9.2 : Nat) : Int) + 1))] ?_
   refine xRe ?_
   refine wpq_thenN ?_
   refine xSel [some 1, some 2] ?_
   refine xSub [(0, Value.pointer (some a_b)), (3, vs A19 (s9.1 ++ ([((List.getD b.defs ((List.getD y1 s9.2 0)).toNat default).name : List UInt8)] : List (List UInt8))) c19), (7, vs A1_0 y1 c1_0), (8, vi (((y1).length : Nat) : Int)), (9, vi (((s9.2 : Nat) : Int) + 1))] ?_
   have eS := (Option.some.inj hS).symm
   exact hN9 _ eS _ _ _ (Gh.le.refl _) ⟨A19, c19, k19, by kernel_rfl, by kernel_rfl, h19⟩
  ·have hS := cond_F h12 hS
   have h12p := of_decide_eq_false h12
   refine xEx 0 ?_
   refine wpq_thenX ?_
   refine wpq_thenX ?_
   refine wpq_blockE ?_
   refine xSel [some 0] ?_
   refine xSub [(3, vs A9_0 s9.1 c9_0)] ?_
   have eS := (Option.some.inj hS).symm
   have eS := (hD9 _ eS).symm
   exact hN4 _ eS _ _ _ e11 ⟨A9_0, c9_0, k9_0, by kernel_rfl, by kernel_rfl, h9_0⟩

def o54_L0 (b : RBoard) (y2 : (List Int)) (s10 : (List (List UInt8)) × Nat) : Option (Ctl ((List (List UInt8)) × Nat) ((List (List UInt8)))) :=
 (cond (decide (((s10.2 : Nat) : Int) < (((y2).length : Nat) : Int))) (grd (decide (0 ≤ (List.getD y2 s10.2 0) ∧ (List.getD y2 s10.2 0) < (((b.defs).length : Nat) : Int))) (grd (decide (((s10.1).length + (([((List.getD b.defs ((List.getD y2 s10.2 0)).toNat default).name : List UInt8)] : List (List UInt8))).length) * 16 ≤ 140737488355328)) (grd (decide (((s10.2 : Nat) : Int) + 1 ≤ 9223372036854775807)) (some (Ctl.go (((s10.1 ++ ([((List.getD b.defs ((List.getD y2 s10.2 0)).toNat default).name : List UInt8)] : List (List UInt8))) : List (List UInt8)), (s10.2 + 1))))))) (some (Ctl.done ((s10.1 : List (List UInt8))))))
def o54 (b : RBoard) : Option ((List (List UInt8))) :=
 (bindO (τ := (List Int)) (o50 b) fun y2 => (bindO (τ := (List (List UInt8))) (loopO (σ := (List (List UInt8)) × Nat) (ρ := (List (List UInt8))) fuelN (o54_L0 b y2) (([] : List (List UInt8)), 0)) fun t5 => (some ((t5 : List (List UInt8))))))
set_option maxRecDepth 100000 in
theorem c54 (g : Gh) (b : RBoard) (Ab_defs : Option Addr) (cb_defs : Nat) (Ab_onset : Option Addr) (cb_onset : Nat) (Ab_acked : Option Addr) (cb_acked : Nat) (fb_defs : Arr g.r tyAlertDef Ab_defs cb_defs b.defs) (fb_onset : Arr g.r (tyI .i64) Ab_onset cb_onset b.onset) (fb_acked : Arr g.r tyB Ab_acked cb_acked b.acked) {r : (List (List UInt8))} (hS : o54 b = some r) :
  Ctr Try.prog 54 [Value.agg #[vs Ab_defs b.defs cb_defs, vi b.steps, vy b.phase, vs Ab_onset b.onset cb_onset, vs Ab_acked b.acked cb_acked]] g [] (fun v ψ o => ∃ (Ar_0 : Option Addr) (cr_0 : Nat) (kr_0 : Option Bk), v = vs Ar_0 r cr_0 ∧ o = [kr_0] ∧ Buf ψ tyS 9 (.slice Ar_0 (r).length cr_0) kr_0 r) := by
 unfold o54 at hS
 refine xFn Try.f54 (Try.f54.body.getD .skip) 24 ?_
 have nfb_defs := fb_defs.len
 have nfb_onset := fb_onset.len
 have nfb_acked := fb_acked.len
 refine xSq ?_
 refine xRg ?_
 refine xE eB ?_
 rintro _ _ _ - ⟨b1, rfl, rfl, rfl⟩
 refine xB 1 [] [(1, vp b1 0)] ?_
 refine xRe ?_
 refine wpq_then ?_
 refine xSq ?_
 refine xRg ?_
 refine xB 1 [] [(1, vp b1 0), (3, Value.slice none 0 0)] ?_
 refine xRe ?_
 refine wpq_then ?_
 refine xSq ?_
 refine xSq ?_
 refine xRg ?_
 refine xB 1 [(0, 0)] [(1, vp b1 0), (3, Value.slice none 0 0), (6, Value.agg #[vs Ab_defs b.defs cb_defs, vi b.steps, vy b.phase, vs Ab_onset b.onset cb_onset, vs Ab_acked b.acked cb_acked])] ?_
 obtain ⟨y2, hy2, hS⟩ := bindO_T hS
 refine xE (eC 0 (fun g' lr eb ln => c50 g' b Ab_defs cb_defs Ab_onset cb_onset Ab_acked cb_acked (fb_defs.mono lr) (fb_onset.mono lr) (fb_acked.mono lr) hy2)) ?_
 rintro _ g3 _ e4 ⟨_, rfl, A2_0, c2_0, k2_0, rfl, rfl, h2_0⟩
 have nh2_0 := h2_0.len
 refine xB 2 [] [(1, vp b1 0), (3, Value.slice none 0 0), (7, vs A2_0 y2 c2_0), (8, vi (((y2).length : Nat) : Int)), (9, vi 0)] ?_
 refine xRe ?_
 refine wpq_then ?_
 refine xBindO hS (fun g own sl t5 => ∃ (A5_0 : Option Addr) (c5_0 : Nat) (k5_0 : Option Bk), own = [k5_0] ∧ sl = [(3, vs A5_0 t5 c5_0)] ∧ Buf g.b tyS 9 (.slice A5_0 (t5).length c5_0) k5_0 t5) ?_ ?_
 ·rintro g6 _ _ t5 e7 ⟨A5_0, c5_0, k5_0, rfl, rfl, h5_0⟩ hS
  have nh5_0 := h5_0.len
  refine wpq_then ?_
  refine xSq ?_
  refine xRg ?_
  refine xB 2 [] [(2, vs A5_0 t5 c5_0)] ?_
  refine xRe ?_
  refine wpq_then ?_
  have eS := (Option.some.inj hS).symm
  subst eS
  exact xRet [some 0] [2] (e4.trans e7) ⟨A5_0, c5_0, k5_0, by kernel_rfl, by kernel_rfl, h5_0⟩ (fun _ _ h => h)
 ·intro uu5 hS hN5
  refine xBl 0 ?_
  refine xSel [some 1, none, some 0] ?_
  refine xSub [(1, vp b1 0), (3, Value.slice none 0 0), (7, vs A2_0 y2 c2_0), (8, vi (((y2).length : Nat) : Int)), (9, vi 0)] ?_
  refine xLo hS (fun g own sl s10 => ∃ (A10_0 : Option Addr) (c10_0 : Nat) (k10_0 : Option Bk), own = [some ⟨b1, 57, (cRBoard b Ab_defs cb_defs Ab_onset cb_onset Ab_acked cb_acked)⟩, k10_0, k2_0] ∧ sl = [(1, vp b1 0), (3, vs A10_0 s10.1 c10_0), (7, vs A2_0 y2 c2_0), (8, vi (((y2).length : Nat) : Int)), (9, vi ((s10.2 : Nat) : Int))] ∧ Buf g.b tyS 9 (.slice A10_0 (s10.1).length c10_0) k10_0 s10.1) ⟨none, 0, none, by kernel_rfl, by kernel_rfl, Buf.nil⟩ ?_
  rintro g11 _ _ s10 uu10 e12 ⟨A10_0, c10_0, k10_0, rfl, rfl, h10_0⟩ hS Qr10 hN10 hD10
  have nh10_0 := h10_0.len
  unfold o54_L0 at hS
  refine xSq ?_
  refine xRg ?_
  refine xB 1 [] [(1, vp b1 0), (3, vs A10_0 s10.1 c10_0), (7, vs A2_0 y2 c2_0), (8, vi (((y2).length : Nat) : Int)), (9, vi ((s10.2 : Nat) : Int)), (10, vb (decide (((s10.2 : Nat) : Int) < (((y2).length : Nat) : Int))))] ?_
  refine xRe ?_
  refine wpq_then ?_
  refine xSq ?_
  refine xCd (decide (((s10.2 : Nat) : Int) < (((y2).length : Nat) : Int))) (fun h13 => ?_) (fun h13 => ?_)
  ·have hS := cond_T h13 hS
   have h13p := of_decide_eq_true h13
   refine xSk ?_
   refine wpq_then ?_
   refine xSub [(1, vp b1 0), (3, vs A10_0 s10.1 c10_0), (7, vs A2_0 y2 c2_0), (8, vi (((y2).length : Nat) : Int)), (9, vi ((s10.2 : Nat) : Int))] ?_
   refine xSq ?_
   refine xBl 1 ?_
   refine xSq ?_
   refine xRg ?_
   have h2_0 := h2_0.mono e12.b
   have i15 : s10.2 < (y2).length := by omega
   obtain ⟨kc14, cs14, hA14, hk14, hr14, hw14⟩ := h2_0.open_ i15 0
   obtain ⟨kb14, rfl⟩ : ∃ z, z = kc14 := ⟨_, rfl⟩
   subst hk14
   have hr14 : cs14 = [vi (List.getD y2 s10.2 0)] := hr14
   subst hr14
   refine xV (qIxB s10.2 1 kb14.g hA14 rfl i15) ?_
   refine xV (qLdB s10.2 1 0 2 hw14) ?_
   refine xB 1 [] [(1, vp b1 0), (3, vs A10_0 s10.1 c10_0), (5, vi (List.getD y2 s10.2 0)), (7, vs A2_0 y2 c2_0), (8, vi (((y2).length : Nat) : Int)), (9, vi ((s10.2 : Nat) : Int))] ?_
   refine xRe ?_
   refine wpq_then ?_
   refine xRg ?_
   have fb_defs := fb_defs.mono (e4.trans e12).r
   obtain ⟨q17, hS⟩ := grd_T hS
   have q17p := of_decide_eq_true q17
   have i18 : ((List.getD y2 s10.2 0)).toNat < (b.defs).length := by omega
   obtain ⟨ad16, cs16, hA16, hr16, hc16⟩ := fb_defs.at_ (get_getD (d := default) i18)
   obtain ⟨rfl⟩ := hr16
   refine xB 4 [(2, 0)] [(1, vp b1 0), (3, vs A10_0 s10.1 c10_0), (7, vs A2_0 y2 c2_0), (8, vi (((y2).length : Nat) : Int)), (9, vi ((s10.2 : Nat) : Int)), (13, vs A10_0 s10.1 c10_0), (15, vs Ab_defs b.defs cb_defs), (16, vi (List.getD y2 s10.2 0))] ?_
   refine xV (qIx ((List.getD y2 s10.2 0)).toNat 3 hA16 (show ((List.getD y2 s10.2 0) : Int) = _ from by omega) i18) ?_
   refine xB 1 [] [(1, vp b1 0), (3, vs A10_0 s10.1 c10_0), (7, vs A2_0 y2 c2_0), (8, vi (((y2).length : Nat) : Int)), (9, vi ((s10.2 : Nat) : Int)), (13, vs A10_0 s10.1 c10_0), (18, Value.pointer (some (Addr.add ad16 (((List.getD y2 s10.2 0)).toNat * 3))))] ?_
   refine xV (qLdP (Addr.add ad16 (((List.getD y2 s10.2 0)).toNat * 3)) 0 hc16) ?_
   refine xE (eBs (T := tyS) (p := g11.b) (et := 9) (xs := ([((List.getD b.defs ((List.getD y2 s10.2 0)).toNat default).name : List UInt8)] : List (List UInt8))) (reps_cons (c := [vt ((List.getD b.defs ((List.getD y2 s10.2 0)).toNat default).name)]) (show tyS.rep _ _ _ from rfl) reps_nil) (by simp)) ?_
   rintro _ _ _ - ⟨A19, c19, k19, rfl, rfl, rfl, h19⟩
   obtain ⟨nw20, hp20, hs20⟩ := h19.srcO (g := g11)
   obtain ⟨q21, hS⟩ := grd_T hS
   have q21p := of_decide_eq_true q21
   refine xE (eApp (T := tyS) (p := g11.b) (et := 9) (bytes := 16) (xs := (s10.1 : List (List UInt8))) (ys := (([((List.getD b.defs ((List.getD y2 s10.2 0)).toNat default).name : List UInt8)] : List (List UInt8)) : List (List UInt8))) 2 h10_0 rfl (fun w hs => hs20 0 w _ hs (by kernel_rfl)) hp20 (by first | omega | (simp only [List.length_cons, List.length_nil] at *; omega)) (by first | omega | (simp only [List.length_cons, List.length_nil] at *; omega))) ?_
   rintro _ _ _ - ⟨A20, c20, k20, rfl, rfl, rfl, h20⟩
   have nh20 := h20.len
   have hz20 : ((s10.1 ++ ([((List.getD b.defs ((List.getD y2 s10.2 0)).toNat default).name : List UInt8)] : List (List UInt8))) : List (List UInt8)).length = (s10.1).length + (([((List.getD b.defs ((List.getD y2 s10.2 0)).toNat default).name : List UInt8)] : List (List UInt8))).length := List.length_append
   refine xB 1 [] [(1, vp b1 0), (3, vs A20 (s10.1 ++ ([((List.getD b.defs ((List.getD y2 s10.2 0)).toNat default).name : List UInt8)] : List (List UInt8))) c20), (7, vs A2_0 y2 c2_0), (8, vi (((y2).length : Nat) : Int)), (9, vi ((s10.2 : Nat) : Int))] ?_
   refine xRe ?_
   refine wpq_blockN ?_
   refine wpq_then ?_
   refine xRg ?_
   obtain ⟨q22, hS⟩ := grd_T hS
   have q22p := of_decide_eq_true q22
   refine xV (qAdd .i64 (((s10.2 : Nat) : Int)) (1) (wr64 (by omega))) ?_
   refine xB 1 [] [(1, vp b1 0), (3, vs A20 (s10.1 ++ ([((List.getD b.defs ((List.getD y2 s10.2 0)).toNat default).name : List UInt8)] : List (List UInt8))) c20), (7, vs A2_0 y2 c2_0), (8, vi (((y2).length : Nat) : Int)), (9, vi (((s10.2 : Nat) : Int) + 1))] ?_
   refine xRe ?_
   refine wpq_thenN ?_
   refine xSel [some 1, some 2, some 3] ?_
   refine xSub [(1, vp b1 0), (3, vs A20 (s10.1 ++ ([((List.getD b.defs ((List.getD y2 s10.2 0)).toNat default).name : List UInt8)] : List (List UInt8))) c20), (7, vs A2_0 y2 c2_0), (8, vi (((y2).length : Nat) : Int)), (9, vi (((s10.2 : Nat) : Int) + 1))] ?_
   have eS := (Option.some.inj hS).symm
   exact hN10 _ eS _ _ _ (Gh.le.refl _) ⟨A20, c20, k20, by kernel_rfl, by kernel_rfl, h20⟩
  ·have hS := cond_F h13 hS
   have h13p := of_decide_eq_false h13
   refine xEx 0 ?_
   refine wpq_thenX ?_
   refine wpq_thenX ?_
   refine wpq_blockE ?_
   refine xSel [some 1] ?_
   refine xSub [(3, vs A10_0 s10.1 c10_0)] ?_
   have eS := (Option.some.inj hS).symm
   have eS := (hD10 _ eS).symm
   exact hN5 _ eS _ _ _ e12 ⟨A10_0, c10_0, k10_0, by kernel_rfl, by kernel_rfl, h10_0⟩

def o53_L0 (a : List (List UInt8)) (b : List (List UInt8)) (s7 : Nat) : Option (Ctl (Nat) (Ctl (Unit) (Bool))) :=
 (cond (decide (((s7 : Nat) : Int) < (((a).length : Nat) : Int))) (grd (decide (s7 < (b).length)) (cond ((!((List.getD a s7 []) == (List.getD b s7 [])))) (some (Ctl.done (Ctl.done ((false))))) (grd (decide (((s7 : Nat) : Int) + 1 ≤ 9223372036854775807)) (some (Ctl.go (s7 + 1)))))) (some (Ctl.done (Ctl.go ()))))
def o53 (a : List (List UInt8)) (b : List (List UInt8)) : Option (Bool) :=
 (cond (((((a).length : Nat) : Int) != (((b).length : Nat) : Int))) (some ((false))) (joinO (τ := Unit) (ρ := Bool) (loopO (σ := Nat) (ρ := Ctl (Unit) (Bool)) fuelN (o53_L0 a b) (0)) fun t2 => (some ((true)))))
set_option maxRecDepth 100000 in
theorem c53 (g : Gh) (a : List (List UInt8)) (Aa : Option Addr) (ca : Nat) (b : List (List UInt8)) (Ab : Option Addr) (cb : Nat) (fa : Arr g.r tyS Aa ca a) (fb : Arr g.r tyS Ab cb b) {r : Bool} (hS : o53 a b = some r) :
  Ctr Try.prog 53 [vs Aa a ca, vs Ab b cb] g [] (fun v ψ o => v = vb r ∧ o = []) := by
 unfold o53 at hS
 refine xFn Try.f53 (Try.f53.body.getD .skip) 26 ?_
 have nfa := fa.len
 have nfb := fb.len
 refine xSq ?_
 refine xRg ?_
 refine xB 1 [] [(0, vs Aa a ca), (1, vs Ab b cb)] ?_
 refine xRe ?_
 refine wpq_then ?_
 refine xSq ?_
 refine xSq ?_
 refine xRg ?_
 refine xB 5 [] [(0, vs Aa a ca), (1, vs Ab b cb), (10, vb ((((a).length : Nat) : Int) != (((b).length : Nat) : Int)))] ?_
 refine xRe ?_
 refine wpq_then ?_
 refine xCd (((((a).length : Nat) : Int) != (((b).length : Nat) : Int))) (fun h1 => ?_) (fun h1 => ?_)
 ·have hS := cond_T h1 hS
  have h1p : ¬ ((((a).length : Nat) : Int) = (((b).length : Nat) : Int)) := ne_of_bne_ h1
  refine xSq ?_
  refine xRg ?_
  refine xB 1 [] [(4, vb false)] ?_
  refine xRe ?_
  refine wpq_then ?_
  have eS := (Option.some.inj hS).symm
  subst eS
  exact xRet [] [4] (Gh.le.refl _) ⟨by kernel_rfl, by kernel_rfl⟩ (fun _ _ h => h)
 ·have hS := cond_F h1 hS
  have h1p : (((a).length : Nat) : Int) = (((b).length : Nat) : Int) := eq_of_bne_false_ h1
  refine xSk ?_
  refine wpq_then ?_
  refine xSub [(0, vs Aa a ca), (1, vs Ab b cb)] ?_
  refine xSq ?_
  refine xSq ?_
  refine xRg ?_
  refine xB 3 [] [(0, vs Aa a ca), (1, vs Ab b cb), (12, vi (((a).length : Nat) : Int)), (13, vi 0)] ?_
  refine xRe ?_
  refine wpq_then ?_
  refine xJoinO hS (fun g own sl t2 => own = [] ∧ sl = []) ?_ ?_
  ·rintro g3 _ _ t2 e4 ⟨rfl, rfl⟩ hS
   refine wpq_then ?_
   refine xSq ?_
   refine xRg ?_
   refine xB 1 [] [(4, vb true)] ?_
   refine xRe ?_
   refine wpq_then ?_
   have eS := (Option.some.inj hS).symm
   subst eS
   exact xRet [] [4] e4 ⟨by kernel_rfl, by kernel_rfl⟩ (fun _ _ h => h)
  ·intro uu2 hS hN2 hD2
   refine xBl 0 ?_
   refine xSub [(0, vs Aa a ca), (1, vs Ab b cb), (12, vi (((a).length : Nat) : Int)), (13, vi 0)] ?_
   refine xLo hS (fun g own sl s7 => own = [] ∧ sl = [(0, vs Aa a ca), (1, vs Ab b cb), (12, vi (((a).length : Nat) : Int)), (13, vi ((s7 : Nat) : Int))]) ⟨by kernel_rfl, by kernel_rfl⟩ ?_
   rintro g8 _ _ s7 uu7 e9 ⟨rfl, rfl⟩ hS Qr7 hN7 hD7
   unfold o53_L0 at hS
   refine xSq ?_
   refine xRg ?_
   refine xB 1 [] [(0, vs Aa a ca), (1, vs Ab b cb), (12, vi (((a).length : Nat) : Int)), (13, vi ((s7 : Nat) : Int)), (14, vb (decide (((s7 : Nat) : Int) < (((a).length : Nat) : Int))))] ?_
   refine xRe ?_
   refine wpq_then ?_
   refine xSq ?_
   refine xCd (decide (((s7 : Nat) : Int) < (((a).length : Nat) : Int))) (fun h10 => ?_) (fun h10 => ?_)
   ·have hS := cond_T h10 hS
    have h10p := of_decide_eq_true h10
    refine xSk ?_
    refine wpq_then ?_
    refine xSub [(0, vs Aa a ca), (1, vs Ab b cb), (12, vi (((a).length : Nat) : Int)), (13, vi ((s7 : Nat) : Int))] ?_
    refine xSq ?_
    refine xBl 1 ?_
    refine xSq ?_
    refine xRg ?_
    refine xB 2 [] [(0, vs Aa a ca), (1, vs Ab b cb), (5, vi ((s7 : Nat) : Int)), (12, vi (((a).length : Nat) : Int)), (13, vi ((s7 : Nat) : Int))] ?_
    refine xRe ?_
    refine wpq_then ?_
    refine xSq ?_
    refine xDr 0 [3, 7] [8] [] 9 (fun RG => ?_) (fun _ _ _ _ _ h => h)
    have fa := fa.mono e9.r
    have i12 : s7 < (a).length := by omega
    obtain ⟨ad11, cs11, hA11, hr11, hc11⟩ := fa.at_ (get_getD (d := []) i12)
    have hr11 : cs11 = [vt (List.getD a s7 [])] := hr11
    subst hr11
    refine xT 7 [0, 1] [] [] [(0, vs Aa a ca), (1, vs Ab b cb), (5, vi ((s7 : Nat) : Int)), (12, vi (((a).length : Nat) : Int)), (13, vi ((s7 : Nat) : Int)), (16, vs Aa a ca), (17, vi ((s7 : Nat) : Int))] RG (Psi.le.refl _) ?_
    refine xTp 2 RG (fun _ => (qIx s7 1 hA11 rfl i12)) ?_
    refine xTv 3 [] RG (Psi.le.refl _) (qLdP (Addr.add ad11 (s7 * 1)) 0 hc11) ?_
    have fb := fb.mono e9.r
    obtain ⟨q14, hS⟩ := grd_T hS
    have q14p := of_decide_eq_true q14
    obtain ⟨ad13, cs13, hA13, hr13, hc13⟩ := fb.at_ (get_getD (d := []) q14p)
    have hr13 : cs13 = [vt (List.getD b s7 [])] := hr13
    subst hr13
    refine xT 3 [4, 5] [] [] [(0, vs Aa a ca), (1, vs Ab b cb), (12, vi (((a).length : Nat) : Int)), (13, vi ((s7 : Nat) : Int)), (19, vt (List.getD a s7 [])), (20, vs Ab b cb), (21, vi ((s7 : Nat) : Int))] RG (Psi.le.refl _) ?_
    refine xTp 6 RG (fun _ => (qIx s7 1 hA13 rfl q14p)) ?_
    refine xTv 7 [] RG (Psi.le.refl _) (qLdP (Addr.add ad13 (s7 * 1)) 0 hc13) ?_
    refine xTp 8 RG (fun _ => (qNeS ((List.getD a s7 [])) ((List.getD b s7 [])))) ?_
    refine xAe (lds := [3, 7]) ?_
    refine wpq_then ?_
    refine xSub [(0, vs Aa a ca), (1, vs Ab b cb), (12, vi (((a).length : Nat) : Int)), (13, vi ((s7 : Nat) : Int)), (24, vb (!((List.getD a s7 []) == (List.getD b s7 []))))] ?_
    refine xCd ((!((List.getD a s7 []) == (List.getD b s7 [])))) (fun h15 => ?_) (fun h15 => ?_)
    ·have hS := cond_T h15 hS
     have h15n := not_eq_true_ h15
     have h15np : ¬ ((List.getD a s7 []) = (List.getD b s7 [])) := ne_of_beq_false_ h15n
     refine xSq ?_
     refine xRg ?_
     refine xB 1 [] [(4, vb false)] ?_
     refine xRe ?_
     refine wpq_then ?_
     have eS := (Option.some.inj hS).symm
     have eS := (hD7 _ eS).symm
     have eS := (hD2 _ eS).symm
     subst eS
     exact xRet [] [4] e9 ⟨by kernel_rfl, by kernel_rfl⟩ (fun _ _ h => h)
    ·have hS := cond_F h15 hS
     have h15n := not_eq_false_ h15
     have h15np : (List.getD a s7 []) = (List.getD b s7 []) := eq_of_beq h15n
     refine xSk ?_
     refine wpq_blockN ?_
     refine wpq_then ?_
     refine xSub [(0, vs Aa a ca), (1, vs Ab b cb), (12, vi (((a).length : Nat) : Int)), (13, vi ((s7 : Nat) : Int))] ?_
     refine xRg ?_
     obtain ⟨q16, hS⟩ := grd_T hS
     have q16p := of_decide_eq_true q16
     refine xV (qAdd .i64 (((s7 : Nat) : Int)) (1) (wr64 (by omega))) ?_
     refine xB 1 [] [(0, vs Aa a ca), (1, vs Ab b cb), (12, vi (((a).length : Nat) : Int)), (13, vi (((s7 : Nat) : Int) + 1))] ?_
     refine xRe ?_
     refine wpq_thenN ?_
     refine xSub [(0, vs Aa a ca), (1, vs Ab b cb), (12, vi (((a).length : Nat) : Int)), (13, vi (((s7 : Nat) : Int) + 1))] ?_
     have eS := (Option.some.inj hS).symm
     exact hN7 _ eS _ _ _ (Gh.le.refl _) ⟨by kernel_rfl, by kernel_rfl⟩
   ·have hS := cond_F h10 hS
    have h10p := of_decide_eq_false h10
    refine xEx 0 ?_
    refine wpq_thenX ?_
    refine wpq_thenX ?_
    refine wpq_blockE ?_
    refine xSub [] ?_
    have eS := (Option.some.inj hS).symm
    have eS := (hD7 _ eS).symm
    exact hN2 _ eS _ _ _ e9 ⟨by kernel_rfl, by kernel_rfl⟩

def o65_L0 (x : Int) (s6 : (List UInt8) × Nat) : Option (Ctl ((List UInt8) × Nat) ((List UInt8))) :=
 (cond (decide (((s6.2 : Nat) : Int) < 8)) (grd (decide (0 ≤ (IntKind.i64.wrap (8 * ((s6.2 : Nat) : Int))))) (grd (decide (((s6.1).length + (([(u8 (IntKind.u8.wrap (shrK .u64 (IntKind.u64.wrap x) (IntKind.i64.wrap (8 * ((s6.2 : Nat) : Int))))))] : List UInt8)).length) * 1 ≤ 140737488355328)) (grd (decide (((s6.2 : Nat) : Int) + 1 ≤ 9223372036854775807)) (some (Ctl.go (((s6.1 ++ ([(u8 (IntKind.u8.wrap (shrK .u64 (IntKind.u64.wrap x) (IntKind.i64.wrap (8 * ((s6.2 : Nat) : Int))))))] : List UInt8)) : List UInt8), (s6.2 + 1))))))) (some (Ctl.done ((s6.1 : List UInt8)))))
def o65 (x : Int) : Option ((List UInt8)) :=
 (bindO (τ := (List UInt8)) (loopO (σ := (List UInt8) × Nat) (ρ := (List UInt8)) fuelN (o65_L0 x) (([] : List UInt8), 0)) fun t1 => (some ((t1 : List UInt8))))
set_option maxRecDepth 100000 in
theorem c65 (g : Gh) (x : Int) {r : (List UInt8)} (hS : o65 x = some r) :
  Ctr Try.prog 65 [vi x] g [] (fun v ψ o => ∃ (Ar_0 : Option Addr) (cr_0 : Nat) (kr_0 : Option Bk), v = vs Ar_0 r cr_0 ∧ o = [kr_0] ∧ Buf ψ tyU8 5 (.slice Ar_0 (r).length cr_0) kr_0 r) := by
 unfold o65 at hS
 refine xFn Try.f65 (Try.f65.body.getD .skip) 19 ?_
 refine xSq ?_
 refine xRg ?_
 refine xB 1 [] [(0, vi x)] ?_
 refine xRe ?_
 refine wpq_then ?_
 refine xSq ?_
 refine xRg ?_
 refine xB 1 [] [(0, vi x), (3, Value.slice none 0 0)] ?_
 refine xRe ?_
 refine wpq_then ?_
 refine xSq ?_
 refine xSq ?_
 refine xRg ?_
 refine xB 1 [] [(0, vi x), (3, Value.slice none 0 0), (4, vi 0)] ?_
 refine xRe ?_
 refine wpq_then ?_
 refine xBindO hS (fun g own sl t1 => ∃ (A1_0 : Option Addr) (c1_0 : Nat) (k1_0 : Option Bk), own = [k1_0] ∧ sl = [(3, vs A1_0 t1 c1_0)] ∧ Buf g.b tyU8 5 (.slice A1_0 (t1).length c1_0) k1_0 t1) ?_ ?_
 ·rintro g2 _ _ t1 e3 ⟨A1_0, c1_0, k1_0, rfl, rfl, h1_0⟩ hS
  have nh1_0 := h1_0.len
  refine wpq_then ?_
  refine xSq ?_
  refine xRg ?_
  refine xB 2 [] [(2, vs A1_0 t1 c1_0)] ?_
  refine xRe ?_
  refine wpq_then ?_
  have eS := (Option.some.inj hS).symm
  subst eS
  exact xRet [some 0] [2] e3 ⟨A1_0, c1_0, k1_0, by kernel_rfl, by kernel_rfl, h1_0⟩ (fun _ _ h => h)
 ·intro uu1 hS hN1
  refine xBl 0 ?_
  refine xSel [none] ?_
  refine xSub [(0, vi x), (3, Value.slice none 0 0), (4, vi 0)] ?_
  refine xLo hS (fun g own sl s6 => ∃ (A6_0 : Option Addr) (c6_0 : Nat) (k6_0 : Option Bk), own = [k6_0] ∧ sl = [(0, vi x), (3, vs A6_0 s6.1 c6_0), (4, vi ((s6.2 : Nat) : Int))] ∧ Buf g.b tyU8 5 (.slice A6_0 (s6.1).length c6_0) k6_0 s6.1) ⟨none, 0, none, by kernel_rfl, by kernel_rfl, Buf.nil⟩ ?_
  rintro g7 _ _ s6 uu6 e8 ⟨A6_0, c6_0, k6_0, rfl, rfl, h6_0⟩ hS Qr6 hN6 hD6
  have nh6_0 := h6_0.len
  unfold o65_L0 at hS
  refine xSq ?_
  refine xSq ?_
  refine xRg ?_
  refine xB 2 [] [(0, vi x), (3, vs A6_0 s6.1 c6_0), (4, vi ((s6.2 : Nat) : Int)), (6, vb (decide (((s6.2 : Nat) : Int) < 8)))] ?_
  refine xRe ?_
  refine wpq_then ?_
  refine xCd (decide (((s6.2 : Nat) : Int) < 8)) (fun h9 => ?_) (fun h9 => ?_)
  ·have hS := cond_T h9 hS
   have h9p := of_decide_eq_true h9
   refine xSk ?_
   refine wpq_then ?_
   refine xSub [(0, vi x), (3, vs A6_0 s6.1 c6_0), (4, vi ((s6.2 : Nat) : Int))] ?_
   refine xSq ?_
   refine xBl 1 ?_
   refine xRg ?_
   have z34 := u64_in_ x
   have z35 := i64_in_ (8 * ((s6.2 : Nat) : Int))
   obtain ⟨q10, hS⟩ := grd_T hS
   have q10p := of_decide_eq_true q10
   refine xB 5 [] [(0, vi x), (3, vs A6_0 s6.1 c6_0), (4, vi ((s6.2 : Nat) : Int)), (9, vs A6_0 s6.1 c6_0), (11, Value.int .u64 (IntKind.u64.wrap x)), (13, vi (IntKind.i64.wrap (8 * ((s6.2 : Nat) : Int))))] ?_
   refine xV (qShr .u64 .i64 ((IntKind.u64.wrap x)) ((IntKind.i64.wrap (8 * ((s6.2 : Nat) : Int)))) (by omega)) ?_
   have z36 := u8_in_ (shrK .u64 (IntKind.u64.wrap x) (IntKind.i64.wrap (8 * ((s6.2 : Nat) : Int))))
   refine xB 1 [] [(0, vi x), (3, vs A6_0 s6.1 c6_0), (4, vi ((s6.2 : Nat) : Int)), (9, vs A6_0 s6.1 c6_0), (15, vy (IntKind.u8.wrap (shrK .u64 (IntKind.u64.wrap x) (IntKind.i64.wrap (8 * ((s6.2 : Nat) : Int))))))] ?_
   refine xE (eBs (T := tyU8) (p := g7.b) (et := 5) (xs := ([(u8 (IntKind.u8.wrap (shrK .u64 (IntKind.u64.wrap x) (IntKind.i64.wrap (8 * ((s6.2 : Nat) : Int))))))] : List UInt8)) (reps_cons (c := [vy (IntKind.u8.wrap (shrK .u64 (IntKind.u64.wrap x) (IntKind.i64.wrap (8 * ((s6.2 : Nat) : Int)))))]) (u8_rep (wrapU8_rng _)) reps_nil) (by simp)) ?_
   rintro _ _ _ - ⟨A11, c11, k11, rfl, rfl, rfl, h11⟩
   obtain ⟨nw12, hp12, hs12⟩ := h11.srcO (g := g7)
   obtain ⟨q13, hS⟩ := grd_T hS
   have q13p := of_decide_eq_true q13
   refine xE (eApp (T := tyU8) (p := g7.b) (et := 5) (bytes := 1) (xs := (s6.1 : List UInt8)) (ys := (([(u8 (IntKind.u8.wrap (shrK .u64 (IntKind.u64.wrap x) (IntKind.i64.wrap (8 * ((s6.2 : Nat) : Int))))))] : List UInt8) : List UInt8)) 1 h6_0 rfl (fun w hs => hs12 0 w _ hs (by kernel_rfl)) hp12 (by first | omega | (simp only [List.length_cons, List.length_nil] at *; omega)) (by first | omega | (simp only [List.length_cons, List.length_nil] at *; omega))) ?_
   rintro _ _ _ - ⟨A12, c12, k12, rfl, rfl, rfl, h12⟩
   have nh12 := h12.len
   have hz12 : ((s6.1 ++ ([(u8 (IntKind.u8.wrap (shrK .u64 (IntKind.u64.wrap x) (IntKind.i64.wrap (8 * ((s6.2 : Nat) : Int))))))] : List UInt8)) : List UInt8).length = (s6.1).length + (([(u8 (IntKind.u8.wrap (shrK .u64 (IntKind.u64.wrap x) (IntKind.i64.wrap (8 * ((s6.2 : Nat) : Int))))))] : List UInt8)).length := List.length_append
   refine xB 1 [] [(0, vi x), (3, vs A12 (s6.1 ++ ([(u8 (IntKind.u8.wrap (shrK .u64 (IntKind.u64.wrap x) (IntKind.i64.wrap (8 * ((s6.2 : Nat) : Int))))))] : List UInt8)) c12), (4, vi ((s6.2 : Nat) : Int))] ?_
   refine xRe ?_
   refine wpq_blockN ?_
   refine wpq_then ?_
   refine xRg ?_
   obtain ⟨q14, hS⟩ := grd_T hS
   have q14p := of_decide_eq_true q14
   refine xB 1 [] [(0, vi x), (3, vs A12 (s6.1 ++ ([(u8 (IntKind.u8.wrap (shrK .u64 (IntKind.u64.wrap x) (IntKind.i64.wrap (8 * ((s6.2 : Nat) : Int))))))] : List UInt8)) c12), (4, vi ((s6.2 : Nat) : Int)), (7, vi ((s6.2 : Nat) : Int))] ?_
   refine xV (qAdd .i64 (((s6.2 : Nat) : Int)) (1) (wr64 (by omega))) ?_
   refine xB 1 [] [(0, vi x), (3, vs A12 (s6.1 ++ ([(u8 (IntKind.u8.wrap (shrK .u64 (IntKind.u64.wrap x) (IntKind.i64.wrap (8 * ((s6.2 : Nat) : Int))))))] : List UInt8)) c12), (4, vi (((s6.2 : Nat) : Int) + 1))] ?_
   refine xRe ?_
   refine wpq_thenN ?_
   refine xSel [some 1] ?_
   refine xSub [(0, vi x), (3, vs A12 (s6.1 ++ ([(u8 (IntKind.u8.wrap (shrK .u64 (IntKind.u64.wrap x) (IntKind.i64.wrap (8 * ((s6.2 : Nat) : Int))))))] : List UInt8)) c12), (4, vi (((s6.2 : Nat) : Int) + 1))] ?_
   have eS := (Option.some.inj hS).symm
   exact hN6 _ eS _ _ _ (Gh.le.refl _) ⟨A12, c12, k12, by kernel_rfl, by kernel_rfl, h12⟩
  ·have hS := cond_F h9 hS
   have h9p := of_decide_eq_false h9
   refine xEx 0 ?_
   refine wpq_thenX ?_
   refine wpq_thenX ?_
   refine wpq_blockE ?_
   refine xSub [(3, vs A6_0 s6.1 c6_0)] ?_
   have eS := (Option.some.inj hS).symm
   have eS := (hD6 _ eS).symm
   exact hN1 _ eS _ _ _ e8 ⟨A6_0, c6_0, k6_0, by kernel_rfl, by kernel_rfl, h6_0⟩

def o55_L0 (b : RBoard) (s212 : (List UInt8) × Nat) : Option (Ctl ((List UInt8) × Nat) ((List UInt8))) :=
 (cond (decide (((s212.2 : Nat) : Int) < (((b.defs).length : Nat) : Int))) (grd (decide (s212.2 < (b.onset).length)) (letJ (τ := Nat) (cond (decide ((List.getD b.onset s212.2 0) > 0)) (1) (0)) fun t218 => (grd (decide (s212.2 < (b.acked).length)) (letJ (τ := Nat) (cond ((List.getD b.acked s212.2 false)) ((t218 + 2)) (t218)) fun t223 => (grd (decide (((s212.1).length + (([(u8 ((t223 : Nat) : Int))] : List UInt8)).length) * 1 ≤ 140737488355328)) (grd (decide (s212.2 < (b.onset).length)) (bindO (τ := (List UInt8)) (o65 ((List.getD b.onset s212.2 0) : Int)) fun y231 => (grd (decide ((((s212.1 ++ ([(u8 ((t223 : Nat) : Int))] : List UInt8))).length + (y231).length) * 1 ≤ 140737488355328)) (grd (decide (((s212.2 : Nat) : Int) + 1 ≤ 9223372036854775807)) (some (Ctl.go ((((s212.1 ++ ([(u8 ((t223 : Nat) : Int))] : List UInt8)) ++ y231) : List UInt8), (s212.2 + 1))))))))))))) (some (Ctl.done ((s212.1 : List UInt8)))))
def o55 (b : RBoard) : Option ((List UInt8)) :=
 (bindO (τ := (List UInt8)) (o65 (b.steps : Int)) fun y3 => (grd (decide (0 ≤ b.phase ∧ b.phase ≤ 255)) (grd (decide (((y3).length + (([(u8 b.phase)] : List UInt8)).length) * 1 ≤ 140737488355328)) (bindO (τ := (List UInt8)) (loopO (σ := (List UInt8) × Nat) (ρ := (List UInt8)) fuelN (o55_L0 b) (((y3 ++ ([(u8 b.phase)] : List UInt8)) : List UInt8), 0)) fun t207 => (some ((t207 : List UInt8)))))))
set_option maxRecDepth 100000 in
theorem c55 (g : Gh) (b : RBoard) (Ab_defs : Option Addr) (cb_defs : Nat) (Ab_onset : Option Addr) (cb_onset : Nat) (Ab_acked : Option Addr) (cb_acked : Nat) (fb_defs : Arr g.r tyAlertDef Ab_defs cb_defs b.defs) (fb_onset : Arr g.r (tyI .i64) Ab_onset cb_onset b.onset) (fb_acked : Arr g.r tyB Ab_acked cb_acked b.acked) {r : (List UInt8)} (hS : o55 b = some r) :
  Ctr Try.prog 55 [Value.agg #[vs Ab_defs b.defs cb_defs, vi b.steps, vy b.phase, vs Ab_onset b.onset cb_onset, vs Ab_acked b.acked cb_acked]] g [] (fun v ψ o => ∃ (Ar_0 : Option Addr) (cr_0 : Nat) (kr_0 : Option Bk), v = vs Ar_0 r cr_0 ∧ o = [kr_0] ∧ Buf ψ tyU8 5 (.slice Ar_0 (r).length cr_0) kr_0 r) := by
 unfold o55 at hS
 refine xFn Try.f55 (Try.f55.body.getD .skip) 48 ?_
 have nfb_defs := fb_defs.len
 have nfb_onset := fb_onset.len
 have nfb_acked := fb_acked.len
 refine xSq ?_
 refine xRg ?_
 refine xE eB ?_
 rintro _ _ _ - ⟨b1, rfl, rfl, rfl⟩
 refine xB 1 [] [(1, vp b1 0)] ?_
 refine xRe ?_
 refine wpq_then ?_
 refine xSq ?_
 refine xDr 0 [1, 4] [7] [some ⟨b1, 57, (cRBoard b Ab_defs cb_defs Ab_onset cb_onset Ab_acked cb_acked)⟩] 8 (fun RG => ?_) (fun _ _ _ _ _ h => h)
 refine xT 4 [0, 1, 3, 4] [(1, 0), (4, 0)] [some 0] [(1, vp b1 0), (7, vi b.steps), (10, vy b.phase)] RG (Psi.le.refl _) ?_
 obtain ⟨y3, hy3, hS⟩ := bindO_T hS
 obtain ⟨q6, hS⟩ := grd_T hS
 have q6p := of_decide_eq_true q6
 refine wpa_meet (fun g own sl => ∃ (A3_0 : Option Addr) (c3_0 : Nat) (k3_0 : Option Bk) (A7 : Option Addr) (c7 : Nat) (k7 : Option Bk), own = [k7, k3_0, some ⟨b1, 57, (cRBoard b Ab_defs cb_defs Ab_onset cb_onset Ab_acked cb_acked)⟩] ∧ sl = [(1, vp b1 0), (8, vs A3_0 y3 c3_0), (11, vs A7 ([(u8 b.phase)] : List UInt8) c7)] ∧ Buf g.b tyU8 5 (.slice A3_0 (y3).length c3_0) k3_0 y3 ∧ Buf g.b tyU8 5 (.slice A7 (([(u8 b.phase)] : List UInt8)).length c7) k7 ([(u8 b.phase)] : List UInt8)) 2 [true, true, true, true, true, true, false, false] ?_ (fun hD2 => ?_)
 ·rintro g203 _ _ e204 ⟨A3_0, c3_0, k3_0, A7, c7, k7, rfl, rfl, h3_0, h7⟩
  have nh3_0 := h3_0.len
  have nh7 := h7.len
  obtain ⟨nw205, hp205, hs205⟩ := h7.srcO (g := g203)
  obtain ⟨q206, hS⟩ := grd_T hS
  have q206p := of_decide_eq_true q206
  refine xO1 (lds := [1, 4]) 6 ?_
  refine xIe (lds := [1, 4]) e204.r (eApp (T := tyU8) (p := g203.b) (et := 5) (bytes := 1) (xs := (y3 : List UInt8)) (ys := (([(u8 b.phase)] : List UInt8) : List UInt8)) 1 h3_0 rfl (fun w hs => hs205 0 w _ hs (by kernel_rfl)) hp205 (by first | omega | (simp only [List.length_cons, List.length_nil] at *; omega)) (by first | omega | (simp only [List.length_cons, List.length_nil] at *; omega))) ?_
  rintro _ _ _ - ⟨A205, c205, k205, rfl, rfl, rfl, h205⟩
  refine kk [some 2] ?_
  have nh205 := h205.len
  have hz205 : ((y3 ++ ([(u8 b.phase)] : List UInt8)) : List UInt8).length = (y3).length + (([(u8 b.phase)] : List UInt8)).length := List.length_append
  refine xT 0 [7] [] [some 2] [(1, vp b1 0), (3, vs A205 (y3 ++ ([(u8 b.phase)] : List UInt8)) c205)] RG e204.r ?_
  refine xAe (lds := [1, 4]) ?_
  refine wpq_then ?_
  refine xSq ?_
  refine xSq ?_
  refine xRg ?_
  refine xB 4 [(1, 2)] [(1, vp b1 0), (3, vs A205 (y3 ++ ([(u8 b.phase)] : List UInt8)) c205), (15, vi (((b.defs).length : Nat) : Int)), (16, vi 0)] ?_
  refine xRe ?_
  refine wpq_then ?_
  refine xBindO hS (fun g own sl t207 => ∃ (A207_0 : Option Addr) (c207_0 : Nat) (k207_0 : Option Bk), own = [k207_0] ∧ sl = [(3, vs A207_0 t207 c207_0)] ∧ Buf g.b tyU8 5 (.slice A207_0 (t207).length c207_0) k207_0 t207) ?_ ?_
  ·rintro g208 _ _ t207 e209 ⟨A207_0, c207_0, k207_0, rfl, rfl, h207_0⟩ hS
   have nh207_0 := h207_0.len
   refine wpq_then ?_
   refine xSq ?_
   refine xRg ?_
   refine xB 2 [] [(2, vs A207_0 t207 c207_0)] ?_
   refine xRe ?_
   refine wpq_then ?_
   have eS := (Option.some.inj hS).symm
   subst eS
   exact xRet [some 0] [2] (e204.trans e209) ⟨A207_0, c207_0, k207_0, by kernel_rfl, by kernel_rfl, h207_0⟩ (fun _ _ h => h)
  ·intro uu207 hS hN207
   refine xBl 0 ?_
   refine xSel [some 2, some 1] ?_
   refine xSub [(1, vp b1 0), (3, vs A205 (y3 ++ ([(u8 b.phase)] : List UInt8)) c205), (15, vi (((b.defs).length : Nat) : Int)), (16, vi 0)] ?_
   refine xLo hS (fun g own sl s212 => ∃ (A212_0 : Option Addr) (c212_0 : Nat) (k212_0 : Option Bk), own = [some ⟨b1, 57, (cRBoard b Ab_defs cb_defs Ab_onset cb_onset Ab_acked cb_acked)⟩, k212_0] ∧ sl = [(1, vp b1 0), (3, vs A212_0 s212.1 c212_0), (15, vi (((b.defs).length : Nat) : Int)), (16, vi ((s212.2 : Nat) : Int))] ∧ Buf g.b tyU8 5 (.slice A212_0 (s212.1).length c212_0) k212_0 s212.1) ⟨A205, c205, k205, by kernel_rfl, by kernel_rfl, h205⟩ ?_
   rintro g213 _ _ s212 uu212 e214 ⟨A212_0, c212_0, k212_0, rfl, rfl, h212_0⟩ hS Qr212 hN212 hD212
   have nh212_0 := h212_0.len
   unfold o55_L0 at hS
   refine xSq ?_
   refine xRg ?_
   refine xB 1 [] [(1, vp b1 0), (3, vs A212_0 s212.1 c212_0), (15, vi (((b.defs).length : Nat) : Int)), (16, vi ((s212.2 : Nat) : Int)), (17, vb (decide (((s212.2 : Nat) : Int) < (((b.defs).length : Nat) : Int))))] ?_
   refine xRe ?_
   refine wpq_then ?_
   refine xSq ?_
   refine xCd (decide (((s212.2 : Nat) : Int) < (((b.defs).length : Nat) : Int))) (fun h215 => ?_) (fun h215 => ?_)
   ·have hS := cond_T h215 hS
    have h215p := of_decide_eq_true h215
    refine xSk ?_
    refine wpq_then ?_
    refine xSub [(1, vp b1 0), (3, vs A212_0 s212.1 c212_0), (15, vi (((b.defs).length : Nat) : Int)), (16, vi ((s212.2 : Nat) : Int))] ?_
    refine xSq ?_
    refine xBl 1 ?_
    refine xSq ?_
    refine xRg ?_
    refine xB 2 [] [(1, vp b1 0), (3, vs A212_0 s212.1 c212_0), (4, vi ((s212.2 : Nat) : Int)), (15, vi (((b.defs).length : Nat) : Int)), (16, vi ((s212.2 : Nat) : Int))] ?_
    refine xRe ?_
    refine wpq_then ?_
    refine xSq ?_
    refine xRg ?_
    refine xB 1 [] [(1, vp b1 0), (3, vs A212_0 s212.1 c212_0), (4, vi ((s212.2 : Nat) : Int)), (5, vy 0), (15, vi (((b.defs).length : Nat) : Int)), (16, vi ((s212.2 : Nat) : Int))] ?_
    refine xRe ?_
    refine wpq_then ?_
    refine xSq ?_
    refine xSq ?_
    refine xRg ?_
    have fb_onset := fb_onset.mono (e204.trans e214).r
    obtain ⟨q217, hS⟩ := grd_T hS
    have q217p := of_decide_eq_true q217
    obtain ⟨ad216, cs216, hA216, hr216, hc216⟩ := fb_onset.at_ (get_getD (d := 0) q217p)
    have hr216 : cs216 = [vi (List.getD b.onset s212.2 0)] := hr216
    subst hr216
    refine xB 3 [(1, 0)] [(1, vp b1 0), (3, vs A212_0 s212.1 c212_0), (4, vi ((s212.2 : Nat) : Int)), (5, vy 0), (15, vi (((b.defs).length : Nat) : Int)), (16, vi ((s212.2 : Nat) : Int)), (20, vs Ab_onset b.onset cb_onset), (21, vi ((s212.2 : Nat) : Int))] ?_
    refine xV (qIx s212.2 1 hA216 rfl q217p) ?_
    refine xV (qLdP (Addr.add ad216 (s212.2 * 1)) 0 hc216) ?_
    refine xB 1 [] [(1, vp b1 0), (3, vs A212_0 s212.1 c212_0), (4, vi ((s212.2 : Nat) : Int)), (5, vy 0), (15, vi (((b.defs).length : Nat) : Int)), (16, vi ((s212.2 : Nat) : Int)), (24, vb (decide ((List.getD b.onset s212.2 0) > 0)))] ?_
    refine xRe ?_
    refine wpq_then ?_
    refine xLetJ hS (fun g own sl t218 => own = [some ⟨b1, 57, (cRBoard b Ab_defs cb_defs Ab_onset cb_onset Ab_acked cb_acked)⟩, k212_0] ∧ sl = [(1, vp b1 0), (3, vs A212_0 s212.1 c212_0), (4, vi ((s212.2 : Nat) : Int)), (5, vy ((t218 : Nat) : Int)), (15, vi (((b.defs).length : Nat) : Int)), (16, vi ((s212.2 : Nat) : Int))] ∧ (0 ≤ t218 ∧ t218 ≤ 1)) ?_ ?_
    ·rintro g219 _ _ t218 e220 ⟨rfl, rfl, ⟨r218_0l, r218_0r⟩⟩ hS
     refine wpq_then ?_
     refine xSq ?_
     refine xSq ?_
     refine xRg ?_
     have fb_acked := fb_acked.mono (e204.trans (e214.trans e220)).r
     obtain ⟨q222, hS⟩ := grd_T hS
     have q222p := of_decide_eq_true q222
     obtain ⟨ad221, cs221, hA221, hr221, hc221⟩ := fb_acked.at_ (get_getD (d := false) q222p)
     have hr221 : cs221 = [vb (List.getD b.acked s212.2 false)] := hr221
     subst hr221
     refine xB 3 [(1, 0)] [(1, vp b1 0), (3, vs A212_0 s212.1 c212_0), (4, vi ((s212.2 : Nat) : Int)), (5, vy ((t218 : Nat) : Int)), (15, vi (((b.defs).length : Nat) : Int)), (16, vi ((s212.2 : Nat) : Int)), (28, vs Ab_acked b.acked cb_acked), (29, vi ((s212.2 : Nat) : Int))] ?_
     refine xV (qIx s212.2 1 hA221 rfl q222p) ?_
     refine xV (qLdP (Addr.add ad221 (s212.2 * 1)) 0 hc221) ?_
     refine xRe ?_
     refine wpq_then ?_
     refine xSub [(1, vp b1 0), (3, vs A212_0 s212.1 c212_0), (4, vi ((s212.2 : Nat) : Int)), (5, vy ((t218 : Nat) : Int)), (15, vi (((b.defs).length : Nat) : Int)), (16, vi ((s212.2 : Nat) : Int)), (31, vb (List.getD b.acked s212.2 false))] ?_
     refine xLetJ hS (fun g own sl t223 => own = [some ⟨b1, 57, (cRBoard b Ab_defs cb_defs Ab_onset cb_onset Ab_acked cb_acked)⟩, k212_0] ∧ sl = [(1, vp b1 0), (3, vs A212_0 s212.1 c212_0), (4, vi ((s212.2 : Nat) : Int)), (5, vy ((t223 : Nat) : Int)), (15, vi (((b.defs).length : Nat) : Int)), (16, vi ((s212.2 : Nat) : Int))] ∧ (0 ≤ t223 ∧ t223 ≤ 3)) ?_ ?_
     ·rintro g224 _ _ t223 e225 ⟨rfl, rfl, ⟨r223_0l, r223_0r⟩⟩ hS
      refine wpq_then ?_
      refine xSq ?_
      refine xRg ?_
      refine xB 2 [] [(1, vp b1 0), (3, vs A212_0 s212.1 c212_0), (4, vi ((s212.2 : Nat) : Int)), (15, vi (((b.defs).length : Nat) : Int)), (16, vi ((s212.2 : Nat) : Int)), (34, vs A212_0 s212.1 c212_0), (35, vy ((t223 : Nat) : Int))] ?_
      refine xE (eBs (T := tyU8) (p := g224.b) (et := 5) (xs := ([(u8 ((t223 : Nat) : Int))] : List UInt8)) (reps_cons (c := [vy ((t223 : Nat) : Int)]) (u8_rep (by omega)) reps_nil) (by simp)) ?_
      rintro _ _ _ - ⟨A226, c226, k226, rfl, rfl, rfl, h226⟩
      have h212_0 := h212_0.mono (e220.trans e225).b
      obtain ⟨nw227, hp227, hs227⟩ := h226.srcO (g := g224)
      obtain ⟨q228, hS⟩ := grd_T hS
      have q228p := of_decide_eq_true q228
      refine xE (eApp (T := tyU8) (p := g224.b) (et := 5) (bytes := 1) (xs := (s212.1 : List UInt8)) (ys := (([(u8 ((t223 : Nat) : Int))] : List UInt8) : List UInt8)) 2 h212_0 rfl (fun w hs => hs227 0 w _ hs (by kernel_rfl)) hp227 (by first | omega | (simp only [List.length_cons, List.length_nil] at *; omega)) (by first | omega | (simp only [List.length_cons, List.length_nil] at *; omega))) ?_
      rintro _ _ _ - ⟨A227, c227, k227, rfl, rfl, rfl, h227⟩
      have nh227 := h227.len
      have hz227 : ((s212.1 ++ ([(u8 ((t223 : Nat) : Int))] : List UInt8)) : List UInt8).length = (s212.1).length + (([(u8 ((t223 : Nat) : Int))] : List UInt8)).length := List.length_append
      refine xB 1 [] [(1, vp b1 0), (3, vs A227 (s212.1 ++ ([(u8 ((t223 : Nat) : Int))] : List UInt8)) c227), (4, vi ((s212.2 : Nat) : Int)), (15, vi (((b.defs).length : Nat) : Int)), (16, vi ((s212.2 : Nat) : Int))] ?_
      refine xRe ?_
      refine wpq_then ?_
      refine xRg ?_
      have fb_onset := fb_onset.mono (e220.trans e225).r
      obtain ⟨q230, hS⟩ := grd_T hS
      have q230p := of_decide_eq_true q230
      obtain ⟨ad229, cs229, hA229, hr229, hc229⟩ := fb_onset.at_ (get_getD (d := 0) q230p)
      have hr229 : cs229 = [vi (List.getD b.onset s212.2 0)] := hr229
      subst hr229
      refine xB 4 [(2, 1)] [(1, vp b1 0), (3, vs A227 (s212.1 ++ ([(u8 ((t223 : Nat) : Int))] : List UInt8)) c227), (15, vi (((b.defs).length : Nat) : Int)), (16, vi ((s212.2 : Nat) : Int)), (38, vs A227 (s212.1 ++ ([(u8 ((t223 : Nat) : Int))] : List UInt8)) c227), (40, vs Ab_onset b.onset cb_onset), (41, vi ((s212.2 : Nat) : Int))] ?_
      refine xV (qIx s212.2 1 hA229 rfl q230p) ?_
      refine xV (qLdP (Addr.add ad229 (s212.2 * 1)) 0 hc229) ?_
      obtain ⟨y231, hy231, hS⟩ := bindO_T hS
      refine xE (eC 0 (fun g' lr eb ln => c65 g' ((List.getD b.onset s212.2 0) : Int) hy231)) ?_
      rintro _ g232 _ e233 ⟨_, rfl, A231_0, c231_0, k231_0, rfl, rfl, h231_0⟩
      have nh231_0 := h231_0.len
      have h227 := h227.mono e233.b
      obtain ⟨nw234, hp234, hs234⟩ := h231_0.srcO (g := g232)
      obtain ⟨q235, hS⟩ := grd_T hS
      have q235p := of_decide_eq_true q235
      refine xE (eApp (T := tyU8) (p := g232.b) (et := 5) (bytes := 1) (xs := ((s212.1 ++ ([(u8 ((t223 : Nat) : Int))] : List UInt8)) : List UInt8)) (ys := (y231 : List UInt8)) 3 h227 rfl (fun w hs => hs234 0 w _ hs (by kernel_rfl)) hp234 (by first | omega | (simp only [List.length_cons, List.length_nil] at *; omega)) (by first | omega | (simp only [List.length_cons, List.length_nil] at *; omega))) ?_
      rintro _ _ _ - ⟨A234, c234, k234, rfl, rfl, rfl, h234⟩
      have nh234 := h234.len
      have hz234 : (((s212.1 ++ ([(u8 ((t223 : Nat) : Int))] : List UInt8)) ++ y231) : List UInt8).length = ((s212.1 ++ ([(u8 ((t223 : Nat) : Int))] : List UInt8))).length + (y231).length := List.length_append
      refine xB 1 [] [(1, vp b1 0), (3, vs A234 ((s212.1 ++ ([(u8 ((t223 : Nat) : Int))] : List UInt8)) ++ y231) c234), (15, vi (((b.defs).length : Nat) : Int)), (16, vi ((s212.2 : Nat) : Int))] ?_
      refine xRe ?_
      refine wpq_blockN ?_
      refine wpq_then ?_
      refine xRg ?_
      obtain ⟨q236, hS⟩ := grd_T hS
      have q236p := of_decide_eq_true q236
      refine xV (qAdd .i64 (((s212.2 : Nat) : Int)) (1) (wr64 (by omega))) ?_
      refine xB 1 [] [(1, vp b1 0), (3, vs A234 ((s212.1 ++ ([(u8 ((t223 : Nat) : Int))] : List UInt8)) ++ y231) c234), (15, vi (((b.defs).length : Nat) : Int)), (16, vi (((s212.2 : Nat) : Int) + 1))] ?_
      refine xRe ?_
      refine wpq_thenN ?_
      refine xSel [some 2, some 3] ?_
      refine xSub [(1, vp b1 0), (3, vs A234 ((s212.1 ++ ([(u8 ((t223 : Nat) : Int))] : List UInt8)) ++ y231) c234), (15, vi (((b.defs).length : Nat) : Int)), (16, vi (((s212.2 : Nat) : Int) + 1))] ?_
      have eS := (Option.some.inj hS).symm
      exact hN212 _ eS _ _ _ (e220.trans (e225.trans e233)) ⟨A234, c234, k234, by kernel_rfl, by kernel_rfl, h234⟩
     ·intro uu223 hS hN223
      refine xCd ((List.getD b.acked s212.2 false)) (fun h237 => ?_) (fun h237 => ?_)
      ·have hS := cond_T h237 hS
       refine xRg ?_
       refine xB 1 [] [(1, vp b1 0), (3, vs A212_0 s212.1 c212_0), (4, vi ((s212.2 : Nat) : Int)), (5, vy ((t218 : Nat) : Int)), (15, vi (((b.defs).length : Nat) : Int)), (16, vi ((s212.2 : Nat) : Int)), (32, vy ((t218 : Nat) : Int))] ?_
       refine xV (qAdd .u8 (((t218 : Nat) : Int)) (2) (wr_u8 (by omega))) ?_
       refine xB 1 [] [(1, vp b1 0), (3, vs A212_0 s212.1 c212_0), (4, vi ((s212.2 : Nat) : Int)), (5, vy (((t218 : Nat) : Int) + 2)), (15, vi (((b.defs).length : Nat) : Int)), (16, vi ((s212.2 : Nat) : Int))] ?_
       refine xRe ?_
       refine xSub [(1, vp b1 0), (3, vs A212_0 s212.1 c212_0), (4, vi ((s212.2 : Nat) : Int)), (5, vy (((t218 : Nat) : Int) + 2)), (15, vi (((b.defs).length : Nat) : Int)), (16, vi ((s212.2 : Nat) : Int))] ?_
       have eS := hS.symm
       exact hN223 _ eS _ _ _ (Gh.le.refl _) ⟨by kernel_rfl, by kernel_rfl, okI⟩
      ·have hS := cond_F h237 hS
       refine xSk ?_
       refine xSub [(1, vp b1 0), (3, vs A212_0 s212.1 c212_0), (4, vi ((s212.2 : Nat) : Int)), (5, vy ((t218 : Nat) : Int)), (15, vi (((b.defs).length : Nat) : Int)), (16, vi ((s212.2 : Nat) : Int))] ?_
       have eS := hS.symm
       exact hN223 _ eS _ _ _ (Gh.le.refl _) ⟨by kernel_rfl, by kernel_rfl, okI⟩
    ·intro uu218 hS hN218
     refine xCd (decide ((List.getD b.onset s212.2 0) > 0)) (fun h238 => ?_) (fun h238 => ?_)
     ·have hS := cond_T h238 hS
      have h238p := of_decide_eq_true h238
      refine xRg ?_
      refine xB 3 [] [(1, vp b1 0), (3, vs A212_0 s212.1 c212_0), (4, vi ((s212.2 : Nat) : Int)), (5, vy 1), (15, vi (((b.defs).length : Nat) : Int)), (16, vi ((s212.2 : Nat) : Int))] ?_
      refine xRe ?_
      refine xSub [(1, vp b1 0), (3, vs A212_0 s212.1 c212_0), (4, vi ((s212.2 : Nat) : Int)), (5, vy 1), (15, vi (((b.defs).length : Nat) : Int)), (16, vi ((s212.2 : Nat) : Int))] ?_
      have eS := hS.symm
      exact hN218 _ eS _ _ _ (Gh.le.refl _) ⟨by kernel_rfl, by kernel_rfl, okI⟩
     ·have hS := cond_F h238 hS
      have h238p := of_decide_eq_false h238
      refine xSk ?_
      refine xSub [(1, vp b1 0), (3, vs A212_0 s212.1 c212_0), (4, vi ((s212.2 : Nat) : Int)), (5, vy 0), (15, vi (((b.defs).length : Nat) : Int)), (16, vi ((s212.2 : Nat) : Int))] ?_
      have eS := hS.symm
      exact hN218 _ eS _ _ _ (Gh.le.refl _) ⟨by kernel_rfl, by kernel_rfl, okI⟩
   ·have hS := cond_F h215 hS
    have h215p := of_decide_eq_false h215
    refine xEx 0 ?_
    refine wpq_thenX ?_
    refine wpq_thenX ?_
    refine wpq_blockE ?_
    refine xSel [some 1] ?_
    refine xSub [(3, vs A212_0 s212.1 c212_0)] ?_
    have eS := (Option.some.inj hS).symm
    have eS := (hD212 _ eS).symm
    exact hN207 _ eS _ _ _ e214 ⟨A212_0, c212_0, k212_0, by kernel_rfl, by kernel_rfl, h212_0⟩
 ·refine xO2 (lds := [1, 4]) 2 5 ?_ ?_
  ·refine xIe (lds := [1, 4]) (Psi.le.refl _) (eC 0 (fun g' lr eb ln => c65 g' (b.steps : Int) hy3)) ?_
   rintro _ g240 _ e241 ⟨_, rfl, A3_0, c3_0, k3_0, rfl, rfl, h3_0⟩
   refine kk [some 1] ?_
   have nh3_0 := h3_0.len
   refine xO1 (lds := [1, 4]) 5 ?_
   refine xIe (lds := [1, 4]) e241.r (eBs (T := tyU8) (p := g240.b) (et := 5) (xs := ([(u8 b.phase)] : List UInt8)) (reps_cons (c := [vy b.phase]) (u8_rep (by omega)) reps_nil) (by simp)) ?_
   rintro _ _ _ - ⟨A243, c243, k243, rfl, rfl, rfl, h243⟩
   refine kk [some 2] ?_
   refine xSub [(1, vp b1 0), (8, vs A3_0 y3 c3_0), (11, vs A243 ([(u8 b.phase)] : List UInt8) c243)] ?_
   exact hD2 _ _ _ e241 ⟨A3_0, c3_0, k3_0, A243, c243, k243, by kernel_rfl, by kernel_rfl, h3_0, h243⟩
  ·refine xIe (lds := [1, 4]) (Psi.le.refl _) (eBs (T := tyU8) (p := g.b) (et := 5) (xs := ([(u8 b.phase)] : List UInt8)) (reps_cons (c := [vy b.phase]) (u8_rep (by omega)) reps_nil) (by simp)) ?_
   rintro _ _ _ - ⟨A245, c245, k245, rfl, rfl, rfl, h245⟩
   refine kk [some 1] ?_
   refine xO1 (lds := [1, 4]) 2 ?_
   refine xIe (lds := [1, 4]) (Psi.le.refl _) (eC 0 (fun g' lr eb ln => c65 g' (b.steps : Int) hy3)) ?_
   rintro _ g247 _ e248 ⟨_, rfl, A3_0, c3_0, k3_0, rfl, rfl, h3_0⟩
   refine kk [some 2] ?_
   have nh3_0 := h3_0.len
   refine xSel [some 1, some 0, some 2] ?_
   refine xSub [(1, vp b1 0), (8, vs A3_0 y3 c3_0), (11, vs A245 ([(u8 b.phase)] : List UInt8) c245)] ?_
   have h245 := h245.mono e248.b
   exact hD2 _ _ _ e248 ⟨A3_0, c3_0, k3_0, A245, c245, k245, by kernel_rfl, by kernel_rfl, h3_0, h245⟩

def o27 (b : Board) (w_ : RBoard) : Option (Bool) :=
 (bindO (τ := (List Int)) (o19 b) fun y2 => (bindO (τ := (List Int)) (o50 w_) fun y5 => (bindO (τ := Bool) (o32 (y2 : List Int) (y5 : List Int)) fun y8 => (bindO (τ := Bool) (cond (y8) (bindO (τ := (List Int)) (o23 b) fun y457 => (bindO (τ := (List Int)) (o51 w_) fun y460 => (bindO (τ := Bool) (o32 (y457 : List Int) (y460 : List Int)) fun y463 => (some (y463))))) (some (false))) fun t11 => (bindO (τ := Bool) (cond (t11) (bindO (τ := Int) (o21 b) fun y450 => (bindO (τ := Int) (o52 w_) fun y453 => (some (y450 == y453)))) (some (false))) fun t14 => (bindO (τ := Bool) (cond (t14) (bindO (τ := (List (List UInt8))) (o20 b) fun y440 => (bindO (τ := (List (List UInt8))) (o54 w_) fun y443 => (bindO (τ := Bool) (o53 (y440 : List (List UInt8)) (y443 : List (List UInt8))) fun y446 => (some (y446))))) (some (false))) fun t17 => (bindO (τ := Bool) (cond (t17) (bindO (τ := (List UInt8)) (o22 b) fun y24 => (bindO (τ := (List UInt8)) (o55 w_) fun y28 => (some (y24 == y28)))) (some (false))) fun t20 => (some ((t20))))))))))
set_option maxRecDepth 100000 in
theorem c27 (g : Gh) (a_b : Addr) (b : Board) (Ab_defs : Option Addr) (cb_defs : Nat) (Ab_conds : Option Addr) (cb_conds : Nat) (w_ : RBoard) (Aw__defs : Option Addr) (cw__defs : Nat) (Aw__onset : Option Addr) (cw__onset : Nat) (Aw__acked : Option Addr) (cw__acked : Nat) (hc_b : Cells g.r a_b (cBoard b Ab_defs cb_defs Ab_conds cb_conds)) (fb_defs : Arr g.r tyAlertDef Ab_defs cb_defs b.defs) (fb_conds : ArrM g.r g.b tyCnd Ab_conds cb_conds b.conds) (fw__defs : Arr g.r tyAlertDef Aw__defs cw__defs w_.defs) (fw__onset : Arr g.r (tyI .i64) Aw__onset cw__onset w_.onset) (fw__acked : Arr g.r tyB Aw__acked cw__acked w_.acked) {r : Bool} (hS : o27 b w_ = some r) :
  Ctr Try.prog 27 [Value.pointer (some a_b), Value.agg #[vs Aw__defs w_.defs cw__defs, vi w_.steps, vy w_.phase, vs Aw__onset w_.onset cw__onset, vs Aw__acked w_.acked cw__acked]] g [] (fun v ψ o => v = vb r ∧ o = []) := by
 unfold o27 at hS
 refine xFn Try.f27 (Try.f27.body.getD .skip) 40 ?_
 have nfb_defs := fb_defs.len
 have nfb_conds := fb_conds.len
 have nfw__defs := fw__defs.len
 have nfw__onset := fw__onset.len
 have nfw__acked := fw__acked.len
 refine xSq ?_
 refine xRg ?_
 refine xE eB ?_
 rintro _ _ _ - ⟨b1, rfl, rfl, rfl⟩
 refine xB 1 [] [(0, Value.pointer (some a_b)), (3, vp b1 0)] ?_
 refine xRe ?_
 refine wpq_then ?_
 refine xSq ?_
 refine xDr 0 [2, 8, 15, 22, 30] [35] [some ⟨b1, 57, (cRBoard w_ Aw__defs cw__defs Aw__onset cw__onset Aw__acked cw__acked)⟩] 36 (fun RG => ?_) (fun _ _ _ _ _ h => h)
 refine xT 34 [0, 2] [(2, 0)] [some 0] [(0, Value.pointer (some a_b)), (3, vp b1 0), (5, Value.pointer (some a_b)), (7, Value.agg #[vs Aw__defs w_.defs cw__defs, vi w_.steps, vy w_.phase, vs Aw__onset w_.onset cw__onset, vs Aw__acked w_.acked cw__acked])] RG (Psi.le.refl _) ?_
 obtain ⟨y2, hy2, hS⟩ := bindO_T hS
 refine xO1 (lds := [2, 8, 15, 22, 30]) 1 ?_
 refine xIe (lds := [2, 8, 15, 22, 30]) (Psi.le.refl _) (eC 0 (fun g' lr eb ln => c19 g' a_b b Ab_defs cb_defs Ab_conds cb_conds (hc_b.mono lr) (fb_defs.mono lr) (ArrM.lent fb_conds lr eb) hy2)) ?_
 rintro _ g3 _ e4 ⟨_, rfl, A2_0, c2_0, k2_0, rfl, rfl, h2_0⟩
 refine kk [some 1] ?_
 have nh2_0 := h2_0.len
 have Efw__defs := fw__defs
 have fw__defs := fw__defs.mono e4.r
 have Efw__onset := fw__onset
 have fw__onset := fw__onset.mono e4.r
 have Efw__acked := fw__acked
 have fw__acked := fw__acked.mono e4.r
 obtain ⟨y5, hy5, hS⟩ := bindO_T hS
 refine xO1 (lds := [2, 8, 15, 22, 30]) 3 ?_
 refine xIe (lds := [2, 8, 15, 22, 30]) e4.r (eC 0 (fun g' lr eb ln => c50 g' w_ Aw__defs cw__defs Aw__onset cw__onset Aw__acked cw__acked (fw__defs.mono lr) (fw__onset.mono lr) (fw__acked.mono lr) hy5)) ?_
 rintro _ g6 _ e7 ⟨_, rfl, A5_0, c5_0, k5_0, rfl, rfl, h5_0⟩
 refine kk [some 2] ?_
 have nh5_0 := h5_0.len
 have h2_0 := h2_0.mono e7.b
 obtain ⟨y8, hy8, hS⟩ := bindO_T hS
 refine xO1 (lds := [2, 8, 15, 22, 30]) 4 ?_
 refine xIe (lds := [2, 8, 15, 22, 30]) (e4.trans e7).r (eC 0 (fun g' lr eb ln => c32 g' (y2 : List Int) A2_0 c2_0 (y5 : List Int) A5_0 c5_0 (arr_of_buf h2_0 (Psi.le_b eb) (lentk 1 (by kernel_rfl) ln)) (arr_of_buf h5_0 (Psi.le_b eb) (lentk 0 (by kernel_rfl) ln)) hy8)) ?_
 rintro _ g9 _ e10 ⟨_, rfl, rfl, rfl⟩
 refine kk [some 2] ?_
 refine xT 30 [5] [] [some 2] [(0, Value.pointer (some a_b)), (3, vp b1 0), (10, vb y8)] RG (e4.trans (e7.trans e10)).r ?_
 refine xGJoA hS 24 [true, true, true, true, true, true, true, true, true, true, true, true, false, false, false, false, false, false, false, false, false, false, false, false, false, false, false, false, false, false, false, false, false, false, false, false] (fun g own sl t11 => own = [some ⟨b1, 57, (cRBoard w_ Aw__defs cw__defs Aw__onset cw__onset Aw__acked cw__acked)⟩] ∧ sl = [(0, Value.pointer (some a_b)), (3, vp b1 0), (16, vb t11)]) ?_ ?_
 ·rintro g12 _ _ t11 e13 ⟨rfl, rfl⟩ hS
  refine xT 23 [12] [] [some 0] [(0, Value.pointer (some a_b)), (3, vp b1 0), (17, vb t11)] RG (e4.trans (e7.trans (e10.trans e13))).r ?_
  refine xGJoA hS 17 [true, true, true, true, true, true, true, true, true, true, true, true, true, true, true, true, true, true, true, false, false, false, false, false, false, false, false, false, false, false, false, false, false, false, false, false] (fun g own sl t14 => own = [some ⟨b1, 57, (cRBoard w_ Aw__defs cw__defs Aw__onset cw__onset Aw__acked cw__acked)⟩] ∧ sl = [(0, Value.pointer (some a_b)), (3, vp b1 0), (23, vb t14)]) ?_ ?_
  ·rintro g15 _ _ t14 e16 ⟨rfl, rfl⟩ hS
   refine xT 16 [19] [] [some 0] [(0, Value.pointer (some a_b)), (3, vp b1 0), (24, vb t14)] RG (e4.trans (e7.trans (e10.trans (e13.trans e16)))).r ?_
   refine xGJoA hS 10 [true, true, true, true, true, true, true, true, true, true, true, true, true, true, true, true, true, true, true, true, true, true, true, true, true, true, false, false, false, false, false, false, false, false, false, false] (fun g own sl t17 => own = [some ⟨b1, 57, (cRBoard w_ Aw__defs cw__defs Aw__onset cw__onset Aw__acked cw__acked)⟩] ∧ sl = [(0, Value.pointer (some a_b)), (3, vp b1 0), (30, vb t17)]) ?_ ?_
   ·rintro g18 _ _ t17 e19 ⟨rfl, rfl⟩ hS
    refine xT 9 [26] [] [some 0] [(0, Value.pointer (some a_b)), (3, vp b1 0), (31, vb t17)] RG (e4.trans (e7.trans (e10.trans (e13.trans (e16.trans e19))))).r ?_
    refine xGJoA hS 1 [true, true, true, true, true, true, true, true, true, true, true, true, true, true, true, true, true, true, true, true, true, true, true, true, true, true, true, true, true, true, true, true, true, true, true, false] (fun g own sl t20 => own = [some ⟨b1, 57, (cRBoard w_ Aw__defs cw__defs Aw__onset cw__onset Aw__acked cw__acked)⟩] ∧ sl = [(39, vb t20)]) ?_ ?_
    ·rintro g21 _ _ t20 e22 ⟨rfl, rfl⟩ hS
     refine xT 0 [35] [] [some 0] [(4, vb t20)] RG (e4.trans (e7.trans (e10.trans (e13.trans (e16.trans (e19.trans e22)))))).r ?_
     refine xAe (lds := [2, 8, 15, 22, 30]) ?_
     refine wpq_then ?_
     have eS := (Option.some.inj hS).symm
     subst eS
     exact xRet [] [4] (e4.trans (e7.trans (e10.trans (e13.trans (e16.trans (e19.trans e22)))))) ⟨by kernel_rfl, by kernel_rfl⟩ (fun _ _ h => h)
    ·intro uu20 hS hN20
     refine wpq_split 31 (b := t17) (by kernel_rfl) (fun q23 => ?_) (fun q23 => ?_)
     ·have hS := cond_T q23 hS
      refine xT 7 [27, 30] [(30, 0)] [some 0] [(31, vb true), (32, Value.pointer (some a_b)), (35, Value.agg #[vs Aw__defs w_.defs cw__defs, vi w_.steps, vy w_.phase, vs Aw__onset w_.onset cw__onset, vs Aw__acked w_.acked cw__acked])] RG (e4.trans (e7.trans (e10.trans (e13.trans (e16.trans e19))))).r ?_
      have hc_b := hc_b.mono (e4.trans (e7.trans (e10.trans (e13.trans (e16.trans e19))))).r
      have fb_defs := fb_defs.mono (e4.trans (e7.trans (e10.trans (e13.trans (e16.trans e19))))).r
      have fb_conds := fb_conds.mono (e4.trans (e7.trans (e10.trans (e13.trans (e16.trans e19))))).r (e4.trans (e7.trans (e10.trans (e13.trans (e16.trans e19))))).b
      obtain ⟨y24, hy24, hS⟩ := bindO_T hS
      refine xO1 (lds := [2, 8, 15, 22, 30]) 28 ?_
      refine xIe (lds := [2, 8, 15, 22, 30]) (e4.trans (e7.trans (e10.trans (e13.trans (e16.trans e19))))).r (eC 0 (fun g' lr eb ln => c22 g' a_b b Ab_defs cb_defs Ab_conds cb_conds (hc_b.mono lr) (fb_defs.mono lr) (ArrM.lent fb_conds lr eb) hy24)) ?_
      rintro _ g25 _ e26 ⟨_, rfl, A24_0, c24_0, k24_0, rfl, rfl, h24_0⟩
      refine kk [some 1] ?_
      have nh24_0 := h24_0.len
      obtain ⟨y28, hy28, hS⟩ := bindO_T hS
      refine wpa_meet (fun g own sl => ∃ (k28_0 : Option Bk), own = [k28_0, k24_0, some ⟨b1, 57, (cRBoard w_ Aw__defs cw__defs Aw__onset cw__onset Aw__acked cw__acked)⟩] ∧ sl = [(31, vb true), (34, vt y24), (37, vt y28)]) 3 [true, true, true, true, true, true, true, true, true, true, true, true, true, true, true, true, true, true, true, true, true, true, true, true, true, true, true, true, true, true, true, true, true, false, false, false] ?_ (fun hD27 => ?_)
      ·rintro g228 _ _ e229 ⟨k28_0, rfl, rfl⟩
       refine xTp 33 RG (fun _ => (qEqS (y24) (y28))) ?_
       refine xT 1 [34] [] [some 2] [(39, vb (y24 == y28))] RG (e4.trans (e7.trans (e10.trans (e13.trans (e16.trans (e19.trans (e26.trans e229))))))).r ?_
       refine xSel [some 2] ?_
       refine xSub [(39, vb (y24 == y28))] ?_
       exact hN20 _ (Option.some.inj hS).symm _ _ _ (e26.trans e229) ⟨by kernel_rfl, by kernel_rfl⟩
      ·refine xO2 (lds := [2, 8, 15, 22, 30]) 29 31 ?_ ?_
       ·refine xIv (lds := [2, 8, 15, 22, 30]) (qStrB 0 h24_0) ?_
        have fw__defs := fw__defs.mono (e7.trans (e10.trans (e13.trans (e16.trans (e19.trans e26))))).r
        have fw__onset := fw__onset.mono (e7.trans (e10.trans (e13.trans (e16.trans (e19.trans e26))))).r
        have fw__acked := fw__acked.mono (e7.trans (e10.trans (e13.trans (e16.trans (e19.trans e26))))).r
        refine xO1 (lds := [2, 8, 15, 22, 30]) 31 ?_
        refine xIe (lds := [2, 8, 15, 22, 30]) (e4.trans (e7.trans (e10.trans (e13.trans (e16.trans (e19.trans e26)))))).r (eC 0 (fun g' lr eb ln => c55 g' w_ Aw__defs cw__defs Aw__onset cw__onset Aw__acked cw__acked (fw__defs.mono lr) (fw__onset.mono lr) (fw__acked.mono lr) hy28)) ?_
        rintro _ g231 _ e232 ⟨_, rfl, A28_0, c28_0, k28_0, rfl, rfl, h28_0⟩
        refine kk [some 2] ?_
        have nh28_0 := h28_0.len
        refine xO1 (lds := [2, 8, 15, 22, 30]) 32 ?_
        refine xIv (lds := [2, 8, 15, 22, 30]) (qStrB 0 h28_0) ?_
        refine xSub [(31, vb true), (34, vt y24), (37, vt y28)] ?_
        exact hD27 _ _ _ e232 ⟨k28_0, by kernel_rfl, by kernel_rfl⟩
       ·have fw__defs := fw__defs.mono (e7.trans (e10.trans (e13.trans (e16.trans (e19.trans e26))))).r
        have fw__onset := fw__onset.mono (e7.trans (e10.trans (e13.trans (e16.trans (e19.trans e26))))).r
        have fw__acked := fw__acked.mono (e7.trans (e10.trans (e13.trans (e16.trans (e19.trans e26))))).r
        refine xIe (lds := [2, 8, 15, 22, 30]) (e4.trans (e7.trans (e10.trans (e13.trans (e16.trans (e19.trans e26)))))).r (eC 0 (fun g' lr eb ln => c55 g' w_ Aw__defs cw__defs Aw__onset cw__onset Aw__acked cw__acked (fw__defs.mono lr) (fw__onset.mono lr) (fw__acked.mono lr) hy28)) ?_
        rintro _ g234 _ e235 ⟨_, rfl, A28_0, c28_0, k28_0, rfl, rfl, h28_0⟩
        refine kk [some 2] ?_
        have nh28_0 := h28_0.len
        refine xO2 (lds := [2, 8, 15, 22, 30]) 29 32 ?_ ?_
        ·have h24_0 := h24_0.mono e235.b
         refine xIv (lds := [2, 8, 15, 22, 30]) (qStrB 1 h24_0) ?_
         refine xO1 (lds := [2, 8, 15, 22, 30]) 32 ?_
         refine xIv (lds := [2, 8, 15, 22, 30]) (qStrB 0 h28_0) ?_
         refine xSub [(31, vb true), (34, vt y24), (37, vt y28)] ?_
         exact hD27 _ _ _ e235 ⟨k28_0, by kernel_rfl, by kernel_rfl⟩
        ·refine xIv (lds := [2, 8, 15, 22, 30]) (qStrB 0 h28_0) ?_
         have h24_0 := h24_0.mono e235.b
         refine xO1 (lds := [2, 8, 15, 22, 30]) 29 ?_
         refine xIv (lds := [2, 8, 15, 22, 30]) (qStrB 1 h24_0) ?_
         refine xSub [(31, vb true), (34, vt y24), (37, vt y28)] ?_
         exact hD27 _ _ _ e235 ⟨k28_0, by kernel_rfl, by kernel_rfl⟩
     ·have hS := cond_F q23 hS
      refine xT 7 [27, 30] [] [some 0] [(31, vb false), (32, undef), (35, undef)] RG (e4.trans (e7.trans (e10.trans (e13.trans (e16.trans e19))))).r ?_
      refine xO1 (lds := [2, 8, 15, 22, 30]) 28 ?_
      refine xIb (lds := [2, 8, 15, 22, 30]) [] ?_
      refine wpa_meet (fun g own sl => own = [some ⟨b1, 57, (cRBoard w_ Aw__defs cw__defs Aw__onset cw__onset Aw__acked cw__acked)⟩] ∧ sl = [(31, vb false), (34, undef), (37, undef)]) 3 [true, true, true, true, true, true, true, true, true, true, true, true, true, true, true, true, true, true, true, true, true, true, true, true, true, true, true, true, true, true, true, true, true, false, false, false] ?_ (fun hD236 => ?_)
      ·rintro g437 _ _ e438 ⟨rfl, rfl⟩
       refine xT 1 [33, 34] [] [some 0] [(39, vb false)] RG (e4.trans (e7.trans (e10.trans (e13.trans (e16.trans (e19.trans e438)))))).r ?_
       refine xSub [(39, vb false)] ?_
       exact hN20 _ (Option.some.inj hS).symm _ _ _ e438 ⟨by kernel_rfl, by kernel_rfl⟩
      ·refine xO2 (lds := [2, 8, 15, 22, 30]) 29 31 ?_ ?_
       ·refine xIb (lds := [2, 8, 15, 22, 30]) [] ?_
        refine xO1 (lds := [2, 8, 15, 22, 30]) 31 ?_
        refine xIb (lds := [2, 8, 15, 22, 30]) [] ?_
        refine xO1 (lds := [2, 8, 15, 22, 30]) 32 ?_
        refine xIb (lds := [2, 8, 15, 22, 30]) [] ?_
        refine xSub [(31, vb false), (34, undef), (37, undef)] ?_
        exact hD236 _ _ _ (Gh.le.refl _) ⟨by kernel_rfl, by kernel_rfl⟩
       ·refine xIb (lds := [2, 8, 15, 22, 30]) [] ?_
        refine xO2 (lds := [2, 8, 15, 22, 30]) 29 32 ?_ ?_
        ·refine xIb (lds := [2, 8, 15, 22, 30]) [] ?_
         refine xO1 (lds := [2, 8, 15, 22, 30]) 32 ?_
         refine xIb (lds := [2, 8, 15, 22, 30]) [] ?_
         refine xSub [(31, vb false), (34, undef), (37, undef)] ?_
         exact hD236 _ _ _ (Gh.le.refl _) ⟨by kernel_rfl, by kernel_rfl⟩
        ·refine xIb (lds := [2, 8, 15, 22, 30]) [] ?_
         refine xO1 (lds := [2, 8, 15, 22, 30]) 29 ?_
         refine xIb (lds := [2, 8, 15, 22, 30]) [] ?_
         refine xSub [(31, vb false), (34, undef), (37, undef)] ?_
         exact hD236 _ _ _ (Gh.le.refl _) ⟨by kernel_rfl, by kernel_rfl⟩
   ·intro uu17 hS hN17
    refine wpq_split 24 (b := t14) (by kernel_rfl) (fun q439 => ?_) (fun q439 => ?_)
    ·have hS := cond_T q439 hS
     refine xT 14 [20, 22] [(22, 0)] [some 0] [(0, Value.pointer (some a_b)), (3, vp b1 0), (24, vb true), (25, Value.pointer (some a_b)), (27, Value.agg #[vs Aw__defs w_.defs cw__defs, vi w_.steps, vy w_.phase, vs Aw__onset w_.onset cw__onset, vs Aw__acked w_.acked cw__acked])] RG (e4.trans (e7.trans (e10.trans (e13.trans e16)))).r ?_
     have Ehc_b := hc_b
     have hc_b := hc_b.mono (e4.trans (e7.trans (e10.trans (e13.trans e16)))).r
     have Efb_defs := fb_defs
     have fb_defs := fb_defs.mono (e4.trans (e7.trans (e10.trans (e13.trans e16)))).r
     have Efb_conds := fb_conds
     have fb_conds := fb_conds.mono (e4.trans (e7.trans (e10.trans (e13.trans e16)))).r (e4.trans (e7.trans (e10.trans (e13.trans e16)))).b
     obtain ⟨y440, hy440, hS⟩ := bindO_T hS
     refine xO1 (lds := [2, 8, 15, 22, 30]) 21 ?_
     refine xIe (lds := [2, 8, 15, 22, 30]) (e4.trans (e7.trans (e10.trans (e13.trans e16)))).r (eC 0 (fun g' lr eb ln => c20 g' a_b b Ab_defs cb_defs Ab_conds cb_conds (hc_b.mono lr) (fb_defs.mono lr) (ArrM.lent fb_conds lr eb) hy440)) ?_
     rintro _ g441 _ e442 ⟨_, rfl, A440_0, c440_0, k440_0, rfl, rfl, h440_0⟩
     refine kk [some 1] ?_
     have nh440_0 := h440_0.len
     have fw__defs := fw__defs.mono (e7.trans (e10.trans (e13.trans (e16.trans e442)))).r
     have fw__onset := fw__onset.mono (e7.trans (e10.trans (e13.trans (e16.trans e442)))).r
     have fw__acked := fw__acked.mono (e7.trans (e10.trans (e13.trans (e16.trans e442)))).r
     obtain ⟨y443, hy443, hS⟩ := bindO_T hS
     refine xO1 (lds := [2, 8, 15, 22, 30]) 23 ?_
     refine xIe (lds := [2, 8, 15, 22, 30]) (e4.trans (e7.trans (e10.trans (e13.trans (e16.trans e442))))).r (eC 0 (fun g' lr eb ln => c54 g' w_ Aw__defs cw__defs Aw__onset cw__onset Aw__acked cw__acked (fw__defs.mono lr) (fw__onset.mono lr) (fw__acked.mono lr) hy443)) ?_
     rintro _ g444 _ e445 ⟨_, rfl, A443_0, c443_0, k443_0, rfl, rfl, h443_0⟩
     refine kk [some 2] ?_
     have nh443_0 := h443_0.len
     have h440_0 := h440_0.mono e445.b
     obtain ⟨y446, hy446, hS⟩ := bindO_T hS
     refine xO1 (lds := [2, 8, 15, 22, 30]) 24 ?_
     refine xIe (lds := [2, 8, 15, 22, 30]) (e4.trans (e7.trans (e10.trans (e13.trans (e16.trans (e442.trans e445)))))).r (eC 0 (fun g' lr eb ln => c53 g' (y440 : List (List UInt8)) A440_0 c440_0 (y443 : List (List UInt8)) A443_0 c443_0 (arr_of_buf h440_0 (Psi.le_b eb) (lentk 1 (by kernel_rfl) ln)) (arr_of_buf h443_0 (Psi.le_b eb) (lentk 0 (by kernel_rfl) ln)) hy446)) ?_
     rintro _ g447 _ e448 ⟨_, rfl, rfl, rfl⟩
     refine kk [some 2] ?_
     refine xT 10 [25] [] [some 2] [(0, Value.pointer (some a_b)), (3, vp b1 0), (30, vb y446)] RG (e4.trans (e7.trans (e10.trans (e13.trans (e16.trans (e442.trans (e445.trans e448))))))).r ?_
     refine xSel [some 2] ?_
     refine xSub [(0, Value.pointer (some a_b)), (3, vp b1 0), (30, vb y446)] ?_
     exact hN17 _ (Option.some.inj hS).symm _ _ _ (e442.trans (e445.trans e448)) ⟨by kernel_rfl, by kernel_rfl⟩
    ·have hS := cond_F q439 hS
     refine xT 14 [20, 22] [] [some 0] [(0, Value.pointer (some a_b)), (3, vp b1 0), (24, vb false), (25, undef), (27, undef)] RG (e4.trans (e7.trans (e10.trans (e13.trans e16)))).r ?_
     refine xO1 (lds := [2, 8, 15, 22, 30]) 21 ?_
     refine xIb (lds := [2, 8, 15, 22, 30]) [] ?_
     refine xO1 (lds := [2, 8, 15, 22, 30]) 23 ?_
     refine xIb (lds := [2, 8, 15, 22, 30]) [] ?_
     refine xO1 (lds := [2, 8, 15, 22, 30]) 24 ?_
     refine xIb (lds := [2, 8, 15, 22, 30]) [] ?_
     refine xT 10 [25] [] [some 0] [(0, Value.pointer (some a_b)), (3, vp b1 0), (30, vb false)] RG (e4.trans (e7.trans (e10.trans (e13.trans e16)))).r ?_
     refine xSub [(0, Value.pointer (some a_b)), (3, vp b1 0), (30, vb false)] ?_
     exact hN17 _ (Option.some.inj hS).symm _ _ _ (Gh.le.refl _) ⟨by kernel_rfl, by kernel_rfl⟩
  ·intro uu14 hS hN14
   refine wpq_split 17 (b := t11) (by kernel_rfl) (fun q449 => ?_) (fun q449 => ?_)
   ·have hS := cond_T q449 hS
    refine xT 21 [13, 15] [(15, 0)] [some 0] [(0, Value.pointer (some a_b)), (3, vp b1 0), (17, vb true), (18, Value.pointer (some a_b)), (20, Value.agg #[vs Aw__defs w_.defs cw__defs, vi w_.steps, vy w_.phase, vs Aw__onset w_.onset cw__onset, vs Aw__acked w_.acked cw__acked])] RG (e4.trans (e7.trans (e10.trans e13))).r ?_
    have Ehc_b := hc_b
    have hc_b := hc_b.mono (e4.trans (e7.trans (e10.trans e13))).r
    have Efb_defs := fb_defs
    have fb_defs := fb_defs.mono (e4.trans (e7.trans (e10.trans e13))).r
    have Efb_conds := fb_conds
    have fb_conds := fb_conds.mono (e4.trans (e7.trans (e10.trans e13))).r (e4.trans (e7.trans (e10.trans e13))).b
    obtain ⟨y450, hy450, hS⟩ := bindO_T hS
    refine xO1 (lds := [2, 8, 15, 22, 30]) 14 ?_
    refine xIe (lds := [2, 8, 15, 22, 30]) (e4.trans (e7.trans (e10.trans e13))).r (eC 0 (fun g' lr eb ln => c21 g' a_b b Ab_defs cb_defs Ab_conds cb_conds (hc_b.mono lr) (fb_defs.mono lr) (ArrM.lent fb_conds lr eb) hy450)) ?_
    rintro _ g451 _ e452 ⟨_, rfl, rfl, rfl⟩
    refine kk [some 0] ?_
    have fw__defs := fw__defs.mono (e7.trans (e10.trans (e13.trans e452))).r
    have fw__onset := fw__onset.mono (e7.trans (e10.trans (e13.trans e452))).r
    have fw__acked := fw__acked.mono (e7.trans (e10.trans (e13.trans e452))).r
    obtain ⟨y453, hy453, hS⟩ := bindO_T hS
    refine xO1 (lds := [2, 8, 15, 22, 30]) 16 ?_
    refine xIe (lds := [2, 8, 15, 22, 30]) (e4.trans (e7.trans (e10.trans (e13.trans e452)))).r (eC 0 (fun g' lr eb ln => c52 g' w_ Aw__defs cw__defs Aw__onset cw__onset Aw__acked cw__acked (fw__defs.mono lr) (fw__onset.mono lr) (fw__acked.mono lr) hy453)) ?_
    rintro _ g454 _ e455 ⟨_, rfl, rfl, rfl⟩
    refine kk [some 0] ?_
    refine xT 17 [17, 18] [] [some 0] [(0, Value.pointer (some a_b)), (3, vp b1 0), (23, vb (y450 == y453))] RG (e4.trans (e7.trans (e10.trans (e13.trans (e452.trans e455))))).r ?_
    refine xSub [(0, Value.pointer (some a_b)), (3, vp b1 0), (23, vb (y450 == y453))] ?_
    exact hN14 _ (Option.some.inj hS).symm _ _ _ (e452.trans e455) ⟨by kernel_rfl, by kernel_rfl⟩
   ·have hS := cond_F q449 hS
    refine xT 21 [13, 15] [] [some 0] [(0, Value.pointer (some a_b)), (3, vp b1 0), (17, vb false), (18, undef), (20, undef)] RG (e4.trans (e7.trans (e10.trans e13))).r ?_
    refine xO1 (lds := [2, 8, 15, 22, 30]) 14 ?_
    refine xIb (lds := [2, 8, 15, 22, 30]) [] ?_
    refine xO1 (lds := [2, 8, 15, 22, 30]) 16 ?_
    refine xIb (lds := [2, 8, 15, 22, 30]) [] ?_
    refine xT 17 [17, 18] [] [some 0] [(0, Value.pointer (some a_b)), (3, vp b1 0), (23, vb false)] RG (e4.trans (e7.trans (e10.trans e13))).r ?_
    refine xSub [(0, Value.pointer (some a_b)), (3, vp b1 0), (23, vb false)] ?_
    exact hN14 _ (Option.some.inj hS).symm _ _ _ (Gh.le.refl _) ⟨by kernel_rfl, by kernel_rfl⟩
 ·intro uu11 hS hN11
  refine wpq_split 10 (b := y8) (by kernel_rfl) (fun q456 => ?_) (fun q456 => ?_)
  ·have hS := cond_T q456 hS
   refine xT 28 [6, 8] [(8, 0)] [some 2] [(0, Value.pointer (some a_b)), (3, vp b1 0), (10, vb true), (11, Value.pointer (some a_b)), (13, Value.agg #[vs Aw__defs w_.defs cw__defs, vi w_.steps, vy w_.phase, vs Aw__onset w_.onset cw__onset, vs Aw__acked w_.acked cw__acked])] RG (e4.trans (e7.trans e10)).r ?_
   have Ehc_b := hc_b
   have hc_b := hc_b.mono (e4.trans (e7.trans e10)).r
   have Efb_defs := fb_defs
   have fb_defs := fb_defs.mono (e4.trans (e7.trans e10)).r
   have Efb_conds := fb_conds
   have fb_conds := fb_conds.mono (e4.trans (e7.trans e10)).r (e4.trans (e7.trans e10)).b
   obtain ⟨y457, hy457, hS⟩ := bindO_T hS
   refine xO1 (lds := [2, 8, 15, 22, 30]) 7 ?_
   refine xIe (lds := [2, 8, 15, 22, 30]) (e4.trans (e7.trans e10)).r (eC 0 (fun g' lr eb ln => c23 g' a_b b Ab_defs cb_defs Ab_conds cb_conds (hc_b.mono lr) (fb_defs.mono lr) (ArrM.lent fb_conds lr eb) hy457)) ?_
   rintro _ g458 _ e459 ⟨_, rfl, A457_0, c457_0, k457_0, rfl, rfl, h457_0⟩
   refine kk [some 3] ?_
   have nh457_0 := h457_0.len
   have fw__defs := fw__defs.mono (e7.trans (e10.trans e459)).r
   have fw__onset := fw__onset.mono (e7.trans (e10.trans e459)).r
   have fw__acked := fw__acked.mono (e7.trans (e10.trans e459)).r
   obtain ⟨y460, hy460, hS⟩ := bindO_T hS
   refine xO1 (lds := [2, 8, 15, 22, 30]) 9 ?_
   refine xIe (lds := [2, 8, 15, 22, 30]) (e4.trans (e7.trans (e10.trans e459))).r (eC 0 (fun g' lr eb ln => c51 g' w_ Aw__defs cw__defs Aw__onset cw__onset Aw__acked cw__acked (fw__defs.mono lr) (fw__onset.mono lr) (fw__acked.mono lr) hy460)) ?_
   rintro _ g461 _ e462 ⟨_, rfl, A460_0, c460_0, k460_0, rfl, rfl, h460_0⟩
   refine kk [some 4] ?_
   have nh460_0 := h460_0.len
   have h457_0 := h457_0.mono e462.b
   obtain ⟨y463, hy463, hS⟩ := bindO_T hS
   refine xO1 (lds := [2, 8, 15, 22, 30]) 10 ?_
   refine xIe (lds := [2, 8, 15, 22, 30]) (e4.trans (e7.trans (e10.trans (e459.trans e462)))).r (eC 0 (fun g' lr eb ln => c32 g' (y457 : List Int) A457_0 c457_0 (y460 : List Int) A460_0 c460_0 (arr_of_buf h457_0 (Psi.le_b eb) (lentk 1 (by kernel_rfl) ln)) (arr_of_buf h460_0 (Psi.le_b eb) (lentk 0 (by kernel_rfl) ln)) hy463)) ?_
   rintro _ g464 _ e465 ⟨_, rfl, rfl, rfl⟩
   refine kk [some 4] ?_
   refine xT 24 [11] [] [some 4] [(0, Value.pointer (some a_b)), (3, vp b1 0), (16, vb y463)] RG (e4.trans (e7.trans (e10.trans (e459.trans (e462.trans e465))))).r ?_
   refine xSel [some 4] ?_
   refine xSub [(0, Value.pointer (some a_b)), (3, vp b1 0), (16, vb y463)] ?_
   exact hN11 _ (Option.some.inj hS).symm _ _ _ (e459.trans (e462.trans e465)) ⟨by kernel_rfl, by kernel_rfl⟩
  ·have hS := cond_F q456 hS
   refine xT 28 [6, 8] [] [some 2] [(0, Value.pointer (some a_b)), (3, vp b1 0), (10, vb false), (11, undef), (13, undef)] RG (e4.trans (e7.trans e10)).r ?_
   refine xO1 (lds := [2, 8, 15, 22, 30]) 7 ?_
   refine xIb (lds := [2, 8, 15, 22, 30]) [] ?_
   refine xO1 (lds := [2, 8, 15, 22, 30]) 9 ?_
   refine xIb (lds := [2, 8, 15, 22, 30]) [] ?_
   refine xO1 (lds := [2, 8, 15, 22, 30]) 10 ?_
   refine xIb (lds := [2, 8, 15, 22, 30]) [] ?_
   refine xT 24 [11] [] [some 2] [(0, Value.pointer (some a_b)), (3, vp b1 0), (16, vb false)] RG (e4.trans (e7.trans e10)).r ?_
   refine xSel [some 2] ?_
   refine xSub [(0, Value.pointer (some a_b)), (3, vp b1 0), (16, vb false)] ?_
   exact hN11 _ (Option.some.inj hS).symm _ _ _ (Gh.le.refl _) ⟨by kernel_rfl, by kernel_rfl⟩

end Go.Proofs.Ytfhchendnfpbkaa
