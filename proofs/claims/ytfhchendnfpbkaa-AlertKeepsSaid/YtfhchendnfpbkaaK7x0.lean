/-
Walks, printed by wip/gen. Conditions: each theorem's own.
-/
import Derived.Test.YtfhchendnfpbkaaA4
namespace Go.Proofs.Ytfhchendnfpbkaa
set_option linter.unusedVariables false
set_option linter.unusedSimpArgs false
open Go.RowKit
def o47_L0 (n : Int) (s7 : (List UInt8) × Nat) : Option (Ctl ((List UInt8) × Nat) ((List UInt8))) :=
  (cond (decide (((s7.2 : Nat) : Int) < ((((List.replicate 8 (0 : UInt8))).length : Nat) : Int))) (grd (decide (0 ≤ (IntKind.i64.wrap (8 * ((s7.2 : Nat) : Int))))) (grd (decide (s7.2 < (s7.1).length)) (grd (decide (((s7.2 : Nat) : Int) + 1 ≤ 9223372036854775807)) (some (Ctl.go (((List.set s7.1 s7.2 (u8 (IntKind.u8.wrap (shrK .i64 n (IntKind.i64.wrap (8 * ((s7.2 : Nat) : Int))))))) : List UInt8), (s7.2 + 1))))))) (some (Ctl.done ((s7.1 : List UInt8)))))
def o47 (n : Int) : Option ((List UInt8)) :=
  (bindO (τ := (List UInt8)) (loopO (σ := (List UInt8) × Nat) (ρ := (List UInt8)) fuelN (o47_L0 n) (((List.replicate 8 (0 : UInt8)) : List UInt8), 0)) fun t2 => (some ((t2 : List UInt8))))
set_option maxRecDepth 100000 in
theorem c47 (g : Gh) (n : Int) {r : (List UInt8)} (hS : o47 n = some r) :
    Ctr Try.prog 47 [vi n] g [] (fun v ψ o => ∃ (Ar_0 : Option Addr) (cr_0 : Nat) (kr_0 : Option Bk), v = vs Ar_0 r cr_0 ∧ o = [kr_0] ∧ Buf ψ tyU8 5 (.slice Ar_0 (r).length cr_0) kr_0 r) := by
  unfold o47 at hS
  refine xFn Try.f47 (Try.f47.body.getD .skip) 21 ?_
  refine xSq ?_
  refine xRg ?_
  refine xB 1 [] [(0, vi n)] ?_
  refine xRe ?_
  refine wpq_then ?_
  refine xSq ?_
  refine xRg ?_
  refine xE (eMk (T := tyU8) (p := g.b) (et := 5) (bytes := 1) (z := (0 : UInt8)) 8 rfl (show tyU8.rep _ _ _ from rfl) (by omega) (by omega)) ?_
  rintro _ _ _ - ⟨A1, c1, k1, rfl, rfl, rfl, h1⟩
  have nh1 := h1.len
  have hlh1 : ((List.replicate 8 (0 : UInt8))).length = 8 := List.length_replicate
  refine xB 1 [] [(0, vi n), (3, vs A1 (List.replicate 8 (0 : UInt8)) c1)] ?_
  refine xRe ?_
  refine wpq_then ?_
  refine xSq ?_
  refine xSq ?_
  refine xRg ?_
  refine xB 3 [] [(0, vi n), (3, vs A1 (List.replicate 8 (0 : UInt8)) c1), (7, vi ((((List.replicate 8 (0 : UInt8))).length : Nat) : Int)), (8, vi 0)] ?_
  refine xRe ?_
  refine wpq_then ?_
  refine xBindO hS (fun g own sl t2 => ∃ (k2_0 : Option Bk), own = [k2_0] ∧ sl = [(3, vs A1 t2 c1)] ∧ Buf g.b tyU8 5 (.slice A1 (t2).length c1) k2_0 t2) ?_ ?_
  · rintro g3 _ _ t2 e4 ⟨k2_0, rfl, rfl, h2_0⟩ hS
    have nh2_0 := h2_0.len
    refine wpq_then ?_
    refine xSq ?_
    refine xRg ?_
    refine xB 2 [] [(2, vs A1 t2 c1)] ?_
    refine xRe ?_
    refine wpq_then ?_
    have eS := (Option.some.inj hS).symm
    subst eS
    exact xRet [some 0] [2] e4 ⟨A1, c1, k2_0, by kernel_rfl, by kernel_rfl, h2_0⟩ (fun _ _ h => h)
  · intro uu2 hS hN2
    refine xBl 0 ?_
    refine xSub [(0, vi n), (3, vs A1 (List.replicate 8 (0 : UInt8)) c1), (7, vi ((((List.replicate 8 (0 : UInt8))).length : Nat) : Int)), (8, vi 0)] ?_
    refine xLo hS (fun g own sl s7 => ∃ (k7_0 : Option Bk), own = [k7_0] ∧ sl = [(0, vi n), (3, vs A1 s7.1 c1), (7, vi ((((List.replicate 8 (0 : UInt8))).length : Nat) : Int)), (8, vi ((s7.2 : Nat) : Int))] ∧ Buf g.b tyU8 5 (.slice A1 (s7.1).length c1) k7_0 s7.1) ⟨k1, by kernel_rfl, by kernel_rfl, h1⟩ ?_
    rintro g8 _ _ s7 uu7 e9 ⟨k7_0, rfl, rfl, h7_0⟩ hS Qr7 hN7 hD7
    have nh7_0 := h7_0.len
    unfold o47_L0 at hS
    refine xSq ?_
    refine xRg ?_
    refine xB 1 [] [(0, vi n), (3, vs A1 s7.1 c1), (7, vi ((((List.replicate 8 (0 : UInt8))).length : Nat) : Int)), (8, vi ((s7.2 : Nat) : Int)), (9, vb (decide (((s7.2 : Nat) : Int) < ((((List.replicate 8 (0 : UInt8))).length : Nat) : Int))))] ?_
    refine xRe ?_
    refine wpq_then ?_
    refine xSq ?_
    refine xCd (decide (((s7.2 : Nat) : Int) < ((((List.replicate 8 (0 : UInt8))).length : Nat) : Int))) (fun h10 => ?_) (fun h10 => ?_)
    · have hS := cond_T h10 hS
      have h10p := of_decide_eq_true h10
      refine xSk ?_
      refine wpq_then ?_
      refine xSub [(0, vi n), (3, vs A1 s7.1 c1), (7, vi ((((List.replicate 8 (0 : UInt8))).length : Nat) : Int)), (8, vi ((s7.2 : Nat) : Int))] ?_
      refine xSq ?_
      refine xBl 1 ?_
      refine xSq ?_
      refine xRg ?_
      refine xB 2 [] [(0, vi n), (3, vs A1 s7.1 c1), (4, vi ((s7.2 : Nat) : Int)), (7, vi ((((List.replicate 8 (0 : UInt8))).length : Nat) : Int)), (8, vi ((s7.2 : Nat) : Int))] ?_
      refine xRe ?_
      refine wpq_then ?_
      refine xRg ?_
      have z23 := i64_in_ (8 * ((s7.2 : Nat) : Int))
      obtain ⟨q11, hS⟩ := grd_T hS
      have q11p := of_decide_eq_true q11
      refine xB 5 [] [(0, vi n), (3, vs A1 s7.1 c1), (7, vi ((((List.replicate 8 (0 : UInt8))).length : Nat) : Int)), (8, vi ((s7.2 : Nat) : Int)), (11, vs A1 s7.1 c1), (12, vi ((s7.2 : Nat) : Int)), (13, vi n), (15, vi (IntKind.i64.wrap (8 * ((s7.2 : Nat) : Int))))] ?_
      refine xV (qShr .i64 .i64 (n) ((IntKind.i64.wrap (8 * ((s7.2 : Nat) : Int)))) (by omega)) ?_
      have z24 := u8_in_ (shrK .i64 n (IntKind.i64.wrap (8 * ((s7.2 : Nat) : Int))))
      obtain ⟨q13, hS⟩ := grd_T hS
      have q13p := of_decide_eq_true q13
      obtain ⟨kc12, cs12, hA12, hk12, hr12, hw12⟩ := h7_0.open_ q13p 0
      obtain ⟨kb12, rfl⟩ : ∃ z, z = kc12 := ⟨_, rfl⟩
      subst hk12
      have hr12 : cs12 = [vy ((List.getD s7.1 s7.2 0).toNat : Int)] := hr12
      subst hr12
      have nb12 := UInt8.toNat_lt (List.getD s7.1 s7.2 0)
      refine xB 1 [] [(0, vi n), (3, vs A1 s7.1 c1), (7, vi ((((List.replicate 8 (0 : UInt8))).length : Nat) : Int)), (8, vi ((s7.2 : Nat) : Int)), (11, vs A1 s7.1 c1), (12, vi ((s7.2 : Nat) : Int)), (17, vy (IntKind.u8.wrap (shrK .i64 n (IntKind.i64.wrap (8 * ((s7.2 : Nat) : Int))))))] ?_
      refine xV (qIxB s7.2 1 kb12.g hA12 rfl q13p) ?_
      refine xD (eStB s7.2 1 0 0 [vy (IntKind.u8.wrap (shrK .i64 n (IntKind.i64.wrap (8 * ((s7.2 : Nat) : Int)))))] h7_0 rfl hw12 (u8_rep (wrapU8_rng _)) q13p) ?_
      rintro _ _ _ - ⟨k14, rfl, rfl, h14⟩
      have hz14 : (s7.1).length = ((List.set s7.1 s7.2 (u8 (IntKind.u8.wrap (shrK .i64 n (IntKind.i64.wrap (8 * ((s7.2 : Nat) : Int)))))))).length := by simp
      refine xRe ?_
      refine wpq_blockN ?_
      refine wpq_then ?_
      refine xSub [(0, vi n), (3, Value.slice A1 ((s7.1).length) c1), (7, vi ((((List.replicate 8 (0 : UInt8))).length : Nat) : Int)), (8, vi ((s7.2 : Nat) : Int))] ?_
      refine xRg ?_
      obtain ⟨q15, hS⟩ := grd_T hS
      have q15p := of_decide_eq_true q15
      refine xV (qAdd .i64 (((s7.2 : Nat) : Int)) (1) (wr64 (by omega))) ?_
      refine xB 1 [] [(0, vi n), (3, Value.slice A1 ((s7.1).length) c1), (7, vi ((((List.replicate 8 (0 : UInt8))).length : Nat) : Int)), (8, vi (((s7.2 : Nat) : Int) + 1))] ?_
      refine xRe ?_
      refine wpq_thenN ?_
      refine wpq_re 3 (v := Value.slice A1 ((s7.1).length) c1) (vs A1 (List.set s7.1 s7.2 (u8 (IntKind.u8.wrap (shrK .i64 n (IntKind.i64.wrap (8 * ((s7.2 : Nat) : Int))))))) c1) (by kernel_rfl) (congrArg (fun z => Value.slice A1 z c1) hz14) ?_
      have h14 := Buf.re h14 hz14 (rfl : (List.set s7.1 s7.2 (u8 (IntKind.u8.wrap (shrK .i64 n (IntKind.i64.wrap (8 * ((s7.2 : Nat) : Int))))))) = _)
      refine xSub [(0, vi n), (3, vs A1 (List.set s7.1 s7.2 (u8 (IntKind.u8.wrap (shrK .i64 n (IntKind.i64.wrap (8 * ((s7.2 : Nat) : Int))))))) c1), (7, vi ((((List.replicate 8 (0 : UInt8))).length : Nat) : Int)), (8, vi (((s7.2 : Nat) : Int) + 1))] ?_
      have eS := (Option.some.inj hS).symm
      exact hN7 _ eS _ _ _ (Gh.le.refl _) ⟨k14, by kernel_rfl, by kernel_rfl, h14⟩
    · have hS := cond_F h10 hS
      have h10p := of_decide_eq_false h10
      refine xEx 0 ?_
      refine wpq_thenX ?_
      refine wpq_thenX ?_
      refine wpq_blockE ?_
      refine xSub [(3, vs A1 s7.1 c1)] ?_
      have eS := (Option.some.inj hS).symm
      have eS := (hD7 _ eS).symm
      exact hN2 _ eS _ _ _ e9 ⟨k7_0, by kernel_rfl, by kernel_rfl, h7_0⟩

def o22_L0 (b : Board) (s211 : (List UInt8) × Nat) : Option (Ctl ((List UInt8) × Nat) ((List UInt8))) :=
  (cond (decide (((s211.2 : Nat) : Int) < (((b.conds).length : Nat) : Int))) (letJ (τ := Nat) (cond (((List.getD b.conds s211.2 default).onset != 0)) (1) (0)) fun t218 => (letJ (τ := Int) (cond ((List.getD b.conds s211.2 default).acked) ((lorK .u8 ((t218 : Nat) : Int) 2)) (((t218 : Nat) : Int))) fun t221 => (grd (decide (((s211.1).length + (([(u8 t221)] : List UInt8)).length) * 1 ≤ 140737488355328)) (bindO (τ := (List UInt8)) (o47 ((List.getD b.conds s211.2 default).onset : Int)) fun y227 => (grd (decide ((((s211.1 ++ ([(u8 t221)] : List UInt8))).length + (y227).length) * 1 ≤ 140737488355328)) (grd (decide (((s211.2 : Nat) : Int) + 1 ≤ 9223372036854775807)) (some (Ctl.go ((((s211.1 ++ ([(u8 t221)] : List UInt8)) ++ y227) : List UInt8), (s211.2 + 1)))))))))) (some (Ctl.done ((s211.1 : List UInt8)))))
def o22 (b : Board) : Option ((List UInt8)) :=
  (bindO (τ := (List UInt8)) (o47 (b.steps : Int)) fun y2 => (grd (decide (0 ≤ b.phase ∧ b.phase ≤ 255)) (grd (decide (((y2).length + (([(u8 b.phase)] : List UInt8)).length) * 1 ≤ 140737488355328)) (bindO (τ := (List UInt8)) (loopO (σ := (List UInt8) × Nat) (ρ := (List UInt8)) fuelN (o22_L0 b) (((y2 ++ ([(u8 b.phase)] : List UInt8)) : List UInt8), 0)) fun t206 => (some ((t206 : List UInt8)))))))
set_option maxRecDepth 100000 in
theorem c22 (g : Gh) (a_b : Addr) (b : Board) (Ab_defs : Option Addr) (cb_defs : Nat) (Ab_conds : Option Addr) (cb_conds : Nat) (hc_b : Cells g.r a_b (cBoard b Ab_defs cb_defs Ab_conds cb_conds)) (fb_defs : Arr g.r tyAlertDef Ab_defs cb_defs b.defs) (fb_conds : ArrM g.r g.b tyCnd Ab_conds cb_conds b.conds) {r : (List UInt8)} (hS : o22 b = some r) :
    Ctr Try.prog 22 [Value.pointer (some a_b)] g [] (fun v ψ o => ∃ (Ar_0 : Option Addr) (cr_0 : Nat) (kr_0 : Option Bk), v = vs Ar_0 r cr_0 ∧ o = [kr_0] ∧ Buf ψ tyU8 5 (.slice Ar_0 (r).length cr_0) kr_0 r) := by
  unfold o22 at hS
  refine xFn Try.f22 (Try.f22.body.getD .skip) 46 ?_
  have nfb_defs := fb_defs.len
  have nfb_conds := fb_conds.len
  refine xSq ?_
  refine xRg ?_
  refine xB 1 [] [(0, Value.pointer (some a_b))] ?_
  refine xRe ?_
  refine wpq_then ?_
  refine xSq ?_
  refine xSq ?_
  refine xRg ?_
  refine xB 2 [] [(0, Value.pointer (some a_b)), (8, vb false)] ?_
  refine xRe ?_
  refine wpq_then ?_
  refine xCf ?_
  refine xSk ?_
  refine wpq_then ?_
  refine xSub [(0, Value.pointer (some a_b))] ?_
  refine xSq ?_
  refine xDr 0 [3, 8] [11] [] 12 (fun RG => ?_) (fun _ _ _ _ _ h => h)
  refine xT 9 [0, 1, 2] [] [] [(0, Value.pointer (some a_b)), (11, Value.pointer (some (Addr.add a_b 1)))] RG (Psi.le.refl _) ?_
  refine xTv 3 [] RG (Psi.le.refl _) (qLdP a_b 1 hc_b) ?_
  refine xT 5 [5, 6, 7] [] [] [(0, Value.pointer (some a_b)), (12, vi b.steps), (16, Value.pointer (some (Addr.add a_b 2)))] RG (Psi.le.refl _) ?_
  refine xTv 8 [] RG (Psi.le.refl _) (qLdP a_b 2 hc_b) ?_
  obtain ⟨y2, hy2, hS⟩ := bindO_T hS
  obtain ⟨q5, hS⟩ := grd_T hS
  have q5p := of_decide_eq_true q5
  refine wpa_meet (fun g own sl => ∃ (A2_0 : Option Addr) (c2_0 : Nat) (k2_0 : Option Bk) (A6 : Option Addr) (c6 : Nat) (k6 : Option Bk), own = [k6, k2_0] ∧ sl = [(0, Value.pointer (some a_b)), (13, vs A2_0 y2 c2_0), (18, vs A6 ([(u8 b.phase)] : List UInt8) c6)] ∧ Buf g.b tyU8 5 (.slice A2_0 (y2).length c2_0) k2_0 y2 ∧ Buf g.b tyU8 5 (.slice A6 (([(u8 b.phase)] : List UInt8)).length c6) k6 ([(u8 b.phase)] : List UInt8)) 2 [true, true, true, true, true, true, true, true, true, true, false, false] ?_ (fun hD1 => ?_)
  · rintro g202 _ _ e203 ⟨A2_0, c2_0, k2_0, A6, c6, k6, rfl, rfl, h2_0, h6⟩
    have nh2_0 := h2_0.len
    have nh6 := h6.len
    obtain ⟨nw204, hp204, hs204⟩ := h6.srcO (g := g202)
    obtain ⟨q205, hS⟩ := grd_T hS
    have q205p := of_decide_eq_true q205
    refine xO1 (lds := [3, 8]) 10 ?_
    refine xIe (lds := [3, 8]) e203.r (eApp (T := tyU8) (p := g202.b) (et := 5) (bytes := 1) (xs := (y2 : List UInt8)) (ys := (([(u8 b.phase)] : List UInt8) : List UInt8)) 1 h2_0 rfl (fun w hs => hs204 0 w _ hs (by kernel_rfl)) hp204 (by first | omega | (simp only [List.length_cons, List.length_nil] at *; omega)) (by first | omega | (simp only [List.length_cons, List.length_nil] at *; omega))) ?_
    rintro _ _ _ - ⟨A204, c204, k204, rfl, rfl, rfl, h204⟩
    refine kk [] ?_
    have nh204 := h204.len
    have hz204 : ((y2 ++ ([(u8 b.phase)] : List UInt8)) : List UInt8).length = (y2).length + (([(u8 b.phase)] : List UInt8)).length := List.length_append
    refine xT 0 [11] [] [] [(0, Value.pointer (some a_b)), (3, vs A204 (y2 ++ ([(u8 b.phase)] : List UInt8)) c204)] RG e203.r ?_
    refine xAe (lds := [3, 8]) ?_
    refine wpq_then ?_
    refine xSq ?_
    refine xSq ?_
    refine xRg ?_
    have hc_b := hc_b.mono e203.r
    refine xB 3 [] [(3, vs A204 (y2 ++ ([(u8 b.phase)] : List UInt8)) c204), (22, Value.pointer (some (Addr.add a_b 3)))] ?_
    refine xV (qLdP a_b 3 hc_b) ?_
    refine xB 2 [] [(3, vs A204 (y2 ++ ([(u8 b.phase)] : List UInt8)) c204), (23, vs Ab_conds b.conds cb_conds), (24, vi (((b.conds).length : Nat) : Int)), (25, vi 0)] ?_
    refine xRe ?_
    refine wpq_then ?_
    refine xBindO hS (fun g own sl t206 => ∃ (A206_0 : Option Addr) (c206_0 : Nat) (k206_0 : Option Bk), own = [k206_0] ∧ sl = [(3, vs A206_0 t206 c206_0)] ∧ Buf g.b tyU8 5 (.slice A206_0 (t206).length c206_0) k206_0 t206) ?_ ?_
    · rintro g207 _ _ t206 e208 ⟨A206_0, c206_0, k206_0, rfl, rfl, h206_0⟩ hS
      have nh206_0 := h206_0.len
      refine wpq_then ?_
      refine xSq ?_
      refine xRg ?_
      refine xB 2 [] [(2, vs A206_0 t206 c206_0)] ?_
      refine xRe ?_
      refine wpq_then ?_
      have eS := (Option.some.inj hS).symm
      subst eS
      exact xRet [some 0] [2] (e203.trans e208) ⟨A206_0, c206_0, k206_0, by kernel_rfl, by kernel_rfl, h206_0⟩ (fun _ _ h => h)
    · intro uu206 hS hN206
      refine xBl 0 ?_
      refine xSel [some 1] ?_
      refine xSub [(3, vs A204 (y2 ++ ([(u8 b.phase)] : List UInt8)) c204), (23, vs Ab_conds b.conds cb_conds), (24, vi (((b.conds).length : Nat) : Int)), (25, vi 0)] ?_
      refine xLo hS (fun g own sl s211 => ∃ (A211_0 : Option Addr) (c211_0 : Nat) (k211_0 : Option Bk), own = [k211_0] ∧ sl = [(3, vs A211_0 s211.1 c211_0), (23, vs Ab_conds b.conds cb_conds), (24, vi (((b.conds).length : Nat) : Int)), (25, vi ((s211.2 : Nat) : Int))] ∧ Buf g.b tyU8 5 (.slice A211_0 (s211.1).length c211_0) k211_0 s211.1) ⟨A204, c204, k204, by kernel_rfl, by kernel_rfl, h204⟩ ?_
      rintro g212 _ _ s211 uu211 e213 ⟨A211_0, c211_0, k211_0, rfl, rfl, h211_0⟩ hS Qr211 hN211 hD211
      have nh211_0 := h211_0.len
      unfold o22_L0 at hS
      refine xSq ?_
      refine xRg ?_
      refine xB 1 [] [(3, vs A211_0 s211.1 c211_0), (23, vs Ab_conds b.conds cb_conds), (24, vi (((b.conds).length : Nat) : Int)), (25, vi ((s211.2 : Nat) : Int)), (26, vb (decide (((s211.2 : Nat) : Int) < (((b.conds).length : Nat) : Int))))] ?_
      refine xRe ?_
      refine wpq_then ?_
      refine xSq ?_
      refine xCd (decide (((s211.2 : Nat) : Int) < (((b.conds).length : Nat) : Int))) (fun h214 => ?_) (fun h214 => ?_)
      · have hS := cond_T h214 hS
        have h214p := of_decide_eq_true h214
        refine xSk ?_
        refine wpq_then ?_
        refine xSub [(3, vs A211_0 s211.1 c211_0), (23, vs Ab_conds b.conds cb_conds), (24, vi (((b.conds).length : Nat) : Int)), (25, vi ((s211.2 : Nat) : Int))] ?_
        refine xSq ?_
        refine xBl 1 ?_
        refine xSq ?_
        refine xRg ?_
        have fb_conds := fb_conds.mono (e203.trans e213).r (e203.trans e213).b
        have i216 : s211.2 < (b.conds).length := by omega
        obtain ⟨ad215, cs215, hA215, hr215, hc215⟩ := fb_conds.at_ (get_getD (d := default) i216)
        obtain ⟨rfl⟩ := hr215
        refine xV (qIx s211.2 2 hA215 rfl i216) ?_
        refine xV (qLdP (Addr.add ad215 (s211.2 * 2)) 0 hc215) ?_
        refine xE eB ?_
        rintro _ _ _ - ⟨b217, rfl, rfl, rfl⟩
        refine xBo 1 [(3, 0)] [some ⟨b217, 79, [vi ((List.getD b.conds s211.2 default).onset), vb ((List.getD b.conds s211.2 default).acked)]⟩, k211_0] [(3, vs A211_0 s211.1 c211_0), (5, vp b217 0), (23, vs Ab_conds b.conds cb_conds), (24, vi (((b.conds).length : Nat) : Int)), (25, vi ((s211.2 : Nat) : Int))] ?_
        refine xRe ?_
        refine wpq_then ?_
        refine xSq ?_
        refine xRg ?_
        refine xB 1 [] [(3, vs A211_0 s211.1 c211_0), (5, vp b217 0), (6, vy 0), (23, vs Ab_conds b.conds cb_conds), (24, vi (((b.conds).length : Nat) : Int)), (25, vi ((s211.2 : Nat) : Int))] ?_
        refine xRe ?_
        refine wpq_then ?_
        refine xSq ?_
        refine xSq ?_
        refine xRg ?_
        refine xB 3 [(1, 0)] [(3, vs A211_0 s211.1 c211_0), (5, vp b217 0), (6, vy 0), (23, vs Ab_conds b.conds cb_conds), (24, vi (((b.conds).length : Nat) : Int)), (25, vi ((s211.2 : Nat) : Int)), (31, vb ((List.getD b.conds s211.2 default).onset != 0))] ?_
        refine xRe ?_
        refine wpq_then ?_
        refine xLetJ hS (fun g own sl t218 => own = [some ⟨b217, 79, [vi ((List.getD b.conds s211.2 default).onset), vb ((List.getD b.conds s211.2 default).acked)]⟩, k211_0] ∧ sl = [(3, vs A211_0 s211.1 c211_0), (5, vp b217 0), (6, vy ((t218 : Nat) : Int)), (23, vs Ab_conds b.conds cb_conds), (24, vi (((b.conds).length : Nat) : Int)), (25, vi ((s211.2 : Nat) : Int))] ∧ (0 ≤ t218 ∧ t218 ≤ 1)) ?_ ?_
        · rintro g219 _ _ t218 e220 ⟨rfl, rfl, ⟨r218_0l, r218_0r⟩⟩ hS
          refine wpq_then ?_
          refine xSq ?_
          refine xSq ?_
          refine xRg ?_
          refine xB 2 [(1, 0)] [(3, vs A211_0 s211.1 c211_0), (5, vp b217 0), (6, vy ((t218 : Nat) : Int)), (23, vs Ab_conds b.conds cb_conds), (24, vi (((b.conds).length : Nat) : Int)), (25, vi ((s211.2 : Nat) : Int)), (33, vb ((List.getD b.conds s211.2 default).acked))] ?_
          refine xRe ?_
          refine wpq_then ?_
          refine xLetJ hS (fun g own sl t221 => own = [some ⟨b217, 79, [vi ((List.getD b.conds s211.2 default).onset), vb ((List.getD b.conds s211.2 default).acked)]⟩, k211_0] ∧ sl = [(3, vs A211_0 s211.1 c211_0), (5, vp b217 0), (6, vy t221), (23, vs Ab_conds b.conds cb_conds), (24, vi (((b.conds).length : Nat) : Int)), (25, vi ((s211.2 : Nat) : Int))] ∧ (0 ≤ t221 ∧ t221 ≤ 255)) ?_ ?_
          · rintro g222 _ _ t221 e223 ⟨rfl, rfl, ⟨r221_0l, r221_0r⟩⟩ hS
            refine wpq_then ?_
            refine xDr 0 [5] [8] [some ⟨b217, 79, [vi ((List.getD b.conds s211.2 default).onset), vb ((List.getD b.conds s211.2 default).acked)]⟩] 9 (fun RG => ?_) (fun _ _ _ _ _ h => h)
            refine xT 5 [0, 1, 4, 5] [(5, 0)] [some 0] [(3, vs A211_0 s211.1 c211_0), (23, vs Ab_conds b.conds cb_conds), (24, vi (((b.conds).length : Nat) : Int)), (25, vi ((s211.2 : Nat) : Int)), (36, vs A211_0 s211.1 c211_0), (37, vy t221), (41, vi ((List.getD b.conds s211.2 default).onset))] RG (Psi.le.refl _) ?_
            refine xO1 (lds := [5]) 2 ?_
            refine xIe (lds := [5]) (Psi.le.refl _) (eBs (T := tyU8) (p := g222.b) (et := 5) (xs := ([(u8 t221)] : List UInt8)) (reps_cons (c := [vy t221]) (u8_rep (by omega)) reps_nil) (by simp)) ?_
            rintro _ _ _ - ⟨A224, c224, k224, rfl, rfl, rfl, h224⟩
            refine kk [some 1] ?_
            have h211_0 := h211_0.mono (e220.trans e223).b
            obtain ⟨nw225, hp225, hs225⟩ := h224.srcO (g := g222)
            obtain ⟨q226, hS⟩ := grd_T hS
            have q226p := of_decide_eq_true q226
            refine xO1 (lds := [5]) 3 ?_
            refine xIe (lds := [5]) (Psi.le.refl _) (eApp (T := tyU8) (p := g222.b) (et := 5) (bytes := 1) (xs := (s211.1 : List UInt8)) (ys := (([(u8 t221)] : List UInt8) : List UInt8)) 2 h211_0 rfl (fun w hs => hs225 0 w _ hs (by kernel_rfl)) hp225 (by first | omega | (simp only [List.length_cons, List.length_nil] at *; omega)) (by first | omega | (simp only [List.length_cons, List.length_nil] at *; omega))) ?_
            rintro _ _ _ - ⟨A225, c225, k225, rfl, rfl, rfl, h225⟩
            refine kk [some 1] ?_
            have nh225 := h225.len
            have hz225 : ((s211.1 ++ ([(u8 t221)] : List UInt8)) : List UInt8).length = (s211.1).length + (([(u8 t221)] : List UInt8)).length := List.length_append
            obtain ⟨y227, hy227, hS⟩ := bindO_T hS
            refine xO1 (lds := [5]) 6 ?_
            refine xIe (lds := [5]) (Psi.le.refl _) (eC 0 (fun g' lr eb ln => c47 g' ((List.getD b.conds s211.2 default).onset : Int) hy227)) ?_
            rintro _ g228 _ e229 ⟨_, rfl, A227_0, c227_0, k227_0, rfl, rfl, h227_0⟩
            refine kk [some 2] ?_
            have nh227_0 := h227_0.len
            have h225 := h225.mono e229.b
            obtain ⟨nw230, hp230, hs230⟩ := h227_0.srcO (g := g228)
            obtain ⟨q231, hS⟩ := grd_T hS
            have q231p := of_decide_eq_true q231
            refine xO1 (lds := [5]) 7 ?_
            refine xIe (lds := [5]) e229.r (eApp (T := tyU8) (p := g228.b) (et := 5) (bytes := 1) (xs := ((s211.1 ++ ([(u8 t221)] : List UInt8)) : List UInt8)) (ys := (y227 : List UInt8)) 3 h225 rfl (fun w hs => hs230 0 w _ hs (by kernel_rfl)) hp230 (by first | omega | (simp only [List.length_cons, List.length_nil] at *; omega)) (by first | omega | (simp only [List.length_cons, List.length_nil] at *; omega))) ?_
            rintro _ _ _ - ⟨A230, c230, k230, rfl, rfl, rfl, h230⟩
            refine kk [some 2] ?_
            have nh230 := h230.len
            have hz230 : (((s211.1 ++ ([(u8 t221)] : List UInt8)) ++ y227) : List UInt8).length = ((s211.1 ++ ([(u8 t221)] : List UInt8))).length + (y227).length := List.length_append
            refine xT 0 [8] [] [some 2] [(3, vs A230 ((s211.1 ++ ([(u8 t221)] : List UInt8)) ++ y227) c230), (23, vs Ab_conds b.conds cb_conds), (24, vi (((b.conds).length : Nat) : Int)), (25, vi ((s211.2 : Nat) : Int))] RG e229.r ?_
            refine xAe (lds := [5]) ?_
            refine wpq_blockN ?_
            refine wpq_then ?_
            refine xRg ?_
            obtain ⟨q232, hS⟩ := grd_T hS
            have q232p := of_decide_eq_true q232
            refine xV (qAdd .i64 (((s211.2 : Nat) : Int)) (1) (wr64 (by omega))) ?_
            refine xB 1 [] [(3, vs A230 ((s211.1 ++ ([(u8 t221)] : List UInt8)) ++ y227) c230), (23, vs Ab_conds b.conds cb_conds), (24, vi (((b.conds).length : Nat) : Int)), (25, vi (((s211.2 : Nat) : Int) + 1))] ?_
            refine xRe ?_
            refine wpq_thenN ?_
            refine xSel [some 3] ?_
            refine xSub [(3, vs A230 ((s211.1 ++ ([(u8 t221)] : List UInt8)) ++ y227) c230), (23, vs Ab_conds b.conds cb_conds), (24, vi (((b.conds).length : Nat) : Int)), (25, vi (((s211.2 : Nat) : Int) + 1))] ?_
            have eS := (Option.some.inj hS).symm
            exact hN211 _ eS _ _ _ (e220.trans (e223.trans e229)) ⟨A230, c230, k230, by kernel_rfl, by kernel_rfl, h230⟩
          · intro uu221 hS hN221
            refine xCd ((List.getD b.conds s211.2 default).acked) (fun h233 => ?_) (fun h233 => ?_)
            · have hS := cond_T h233 hS
              refine xRg ?_
              refine xB 3 [] [(3, vs A211_0 s211.1 c211_0), (5, vp b217 0), (6, vy (lorK .u8 ((t218 : Nat) : Int) 2)), (23, vs Ab_conds b.conds cb_conds), (24, vi (((b.conds).length : Nat) : Int)), (25, vi ((s211.2 : Nat) : Int))] ?_
              refine xRe ?_
              refine xSub [(3, vs A211_0 s211.1 c211_0), (5, vp b217 0), (6, vy (lorK .u8 ((t218 : Nat) : Int) 2)), (23, vs Ab_conds b.conds cb_conds), (24, vi (((b.conds).length : Nat) : Int)), (25, vi ((s211.2 : Nat) : Int))] ?_
              have eS := hS.symm
              exact hN221 _ eS _ _ _ (Gh.le.refl _) ⟨by kernel_rfl, by kernel_rfl, okI⟩
            · have hS := cond_F h233 hS
              refine xSk ?_
              refine xSub [(3, vs A211_0 s211.1 c211_0), (5, vp b217 0), (6, vy ((t218 : Nat) : Int)), (23, vs Ab_conds b.conds cb_conds), (24, vi (((b.conds).length : Nat) : Int)), (25, vi ((s211.2 : Nat) : Int))] ?_
              have eS := hS.symm
              exact hN221 _ eS _ _ _ (Gh.le.refl _) ⟨by kernel_rfl, by kernel_rfl, okI⟩
        · intro uu218 hS hN218
          refine xCd (((List.getD b.conds s211.2 default).onset != 0)) (fun h234 => ?_) (fun h234 => ?_)
          · have hS := cond_T h234 hS
            have h234p : ¬ ((List.getD b.conds s211.2 default).onset = 0) := ne_of_bne_ h234
            refine xRg ?_
            refine xB 1 [] [(3, vs A211_0 s211.1 c211_0), (5, vp b217 0), (6, vy 1), (23, vs Ab_conds b.conds cb_conds), (24, vi (((b.conds).length : Nat) : Int)), (25, vi ((s211.2 : Nat) : Int))] ?_
            refine xRe ?_
            refine xSub [(3, vs A211_0 s211.1 c211_0), (5, vp b217 0), (6, vy 1), (23, vs Ab_conds b.conds cb_conds), (24, vi (((b.conds).length : Nat) : Int)), (25, vi ((s211.2 : Nat) : Int))] ?_
            have eS := hS.symm
            exact hN218 _ eS _ _ _ (Gh.le.refl _) ⟨by kernel_rfl, by kernel_rfl, okI⟩
          · have hS := cond_F h234 hS
            have h234p : (List.getD b.conds s211.2 default).onset = 0 := eq_of_bne_false_ h234
            refine xSk ?_
            refine xSub [(3, vs A211_0 s211.1 c211_0), (5, vp b217 0), (6, vy 0), (23, vs Ab_conds b.conds cb_conds), (24, vi (((b.conds).length : Nat) : Int)), (25, vi ((s211.2 : Nat) : Int))] ?_
            have eS := hS.symm
            exact hN218 _ eS _ _ _ (Gh.le.refl _) ⟨by kernel_rfl, by kernel_rfl, okI⟩
      · have hS := cond_F h214 hS
        have h214p := of_decide_eq_false h214
        refine xEx 0 ?_
        refine wpq_thenX ?_
        refine wpq_thenX ?_
        refine wpq_blockE ?_
        refine xSub [(3, vs A211_0 s211.1 c211_0)] ?_
        have eS := (Option.some.inj hS).symm
        have eS := (hD211 _ eS).symm
        exact hN206 _ eS _ _ _ e213 ⟨A211_0, c211_0, k211_0, by kernel_rfl, by kernel_rfl, h211_0⟩
  · refine xO2 (lds := [3, 8]) 4 9 ?_ ?_
    · refine xIe (lds := [3, 8]) (Psi.le.refl _) (eC 0 (fun g' lr eb ln => c47 g' (b.steps : Int) hy2)) ?_
      rintro _ g236 _ e237 ⟨_, rfl, A2_0, c2_0, k2_0, rfl, rfl, h2_0⟩
      refine kk [] ?_
      have nh2_0 := h2_0.len
      refine xO1 (lds := [3, 8]) 9 ?_
      refine xIe (lds := [3, 8]) e237.r (eBs (T := tyU8) (p := g236.b) (et := 5) (xs := ([(u8 b.phase)] : List UInt8)) (reps_cons (c := [vy b.phase]) (u8_rep (by omega)) reps_nil) (by simp)) ?_
      rintro _ _ _ - ⟨A239, c239, k239, rfl, rfl, rfl, h239⟩
      refine kk [] ?_
      refine xSub [(0, Value.pointer (some a_b)), (13, vs A2_0 y2 c2_0), (18, vs A239 ([(u8 b.phase)] : List UInt8) c239)] ?_
      exact hD1 _ _ _ e237 ⟨A2_0, c2_0, k2_0, A239, c239, k239, by kernel_rfl, by kernel_rfl, h2_0, h239⟩
    · refine xIe (lds := [3, 8]) (Psi.le.refl _) (eBs (T := tyU8) (p := g.b) (et := 5) (xs := ([(u8 b.phase)] : List UInt8)) (reps_cons (c := [vy b.phase]) (u8_rep (by omega)) reps_nil) (by simp)) ?_
      rintro _ _ _ - ⟨A241, c241, k241, rfl, rfl, rfl, h241⟩
      refine kk [] ?_
      refine xO1 (lds := [3, 8]) 4 ?_
      refine xIe (lds := [3, 8]) (Psi.le.refl _) (eC 0 (fun g' lr eb ln => c47 g' (b.steps : Int) hy2)) ?_
      rintro _ g243 _ e244 ⟨_, rfl, A2_0, c2_0, k2_0, rfl, rfl, h2_0⟩
      refine kk [] ?_
      have nh2_0 := h2_0.len
      refine xSel [some 1, some 0] ?_
      refine xSub [(0, Value.pointer (some a_b)), (13, vs A2_0 y2 c2_0), (18, vs A241 ([(u8 b.phase)] : List UInt8) c241)] ?_
      have h241 := h241.mono e244.b
      exact hD1 _ _ _ e244 ⟨A2_0, c2_0, k2_0, A241, c241, k241, by kernel_rfl, by kernel_rfl, h2_0, h241⟩

def o20_L0 (b : Board) (y1 : (List Int)) (s9 : (List (List UInt8)) × Nat) : Option (Ctl ((List (List UInt8)) × Nat) ((List (List UInt8)))) :=
  (cond (decide (((s9.2 : Nat) : Int) < (((y1).length : Nat) : Int))) (grd (decide (0 ≤ (List.getD y1 s9.2 0) ∧ (List.getD y1 s9.2 0) < (((b.defs).length : Nat) : Int))) (grd (decide (((s9.1).length + (([((List.getD b.defs ((List.getD y1 s9.2 0)).toNat default).name : List UInt8)] : List (List UInt8))).length) * 16 ≤ 140737488355328)) (grd (decide (((s9.2 : Nat) : Int) + 1 ≤ 9223372036854775807)) (some (Ctl.go (((s9.1 ++ ([((List.getD b.defs ((List.getD y1 s9.2 0)).toNat default).name : List UInt8)] : List (List UInt8))) : List (List UInt8)), (s9.2 + 1))))))) (some (Ctl.done ((s9.1 : List (List UInt8))))))
def o20 (b : Board) : Option ((List (List UInt8))) :=
  (bindO (τ := (List Int)) (o19 b) fun y1 => (bindO (τ := (List (List UInt8))) (loopO (σ := (List (List UInt8)) × Nat) (ρ := (List (List UInt8))) fuelN (o20_L0 b y1) (([] : List (List UInt8)), 0)) fun t4 => (some ((t4 : List (List UInt8))))))
set_option maxRecDepth 100000 in
theorem c20 (g : Gh) (a_b : Addr) (b : Board) (Ab_defs : Option Addr) (cb_defs : Nat) (Ab_conds : Option Addr) (cb_conds : Nat) (hc_b : Cells g.r a_b (cBoard b Ab_defs cb_defs Ab_conds cb_conds)) (fb_defs : Arr g.r tyAlertDef Ab_defs cb_defs b.defs) (fb_conds : ArrM g.r g.b tyCnd Ab_conds cb_conds b.conds) {r : (List (List UInt8))} (hS : o20 b = some r) :
    Ctr Try.prog 20 [Value.pointer (some a_b)] g [] (fun v ψ o => ∃ (Ar_0 : Option Addr) (cr_0 : Nat) (kr_0 : Option Bk), v = vs Ar_0 r cr_0 ∧ o = [kr_0] ∧ Buf ψ tyS 9 (.slice Ar_0 (r).length cr_0) kr_0 r) := by
  unfold o20 at hS
  refine xFn Try.f20 (Try.f20.body.getD .skip) 26 ?_
  have nfb_defs := fb_defs.len
  have nfb_conds := fb_conds.len
  refine xSq ?_
  refine xRg ?_
  refine xB 1 [] [(0, Value.pointer (some a_b))] ?_
  refine xRe ?_
  refine wpq_then ?_
  refine xSq ?_
  refine xRg ?_
  refine xB 1 [] [(0, Value.pointer (some a_b)), (3, Value.slice none 0 0)] ?_
  refine xRe ?_
  refine wpq_then ?_
  refine xSq ?_
  refine xSq ?_
  refine xRg ?_
  refine xB 1 [] [(0, Value.pointer (some a_b)), (3, Value.slice none 0 0), (6, Value.pointer (some a_b))] ?_
  obtain ⟨y1, hy1, hS⟩ := bindO_T hS
  refine xE (eC 0 (fun g' lr eb ln => c19 g' a_b b Ab_defs cb_defs Ab_conds cb_conds (hc_b.mono lr) (fb_defs.mono lr) (ArrM.lent fb_conds lr eb) hy1)) ?_
  rintro _ g2 _ e3 ⟨_, rfl, A1_0, c1_0, k1_0, rfl, rfl, h1_0⟩
  have nh1_0 := h1_0.len
  refine xB 2 [] [(0, Value.pointer (some a_b)), (3, Value.slice none 0 0), (7, vs A1_0 y1 c1_0), (8, vi (((y1).length : Nat) : Int)), (9, vi 0)] ?_
  refine xRe ?_
  refine wpq_then ?_
  refine xBindO hS (fun g own sl t4 => ∃ (A4_0 : Option Addr) (c4_0 : Nat) (k4_0 : Option Bk), own = [k4_0] ∧ sl = [(3, vs A4_0 t4 c4_0)] ∧ Buf g.b tyS 9 (.slice A4_0 (t4).length c4_0) k4_0 t4) ?_ ?_
  · rintro g5 _ _ t4 e6 ⟨A4_0, c4_0, k4_0, rfl, rfl, h4_0⟩ hS
    have nh4_0 := h4_0.len
    refine wpq_then ?_
    refine xSq ?_
    refine xRg ?_
    refine xB 2 [] [(2, vs A4_0 t4 c4_0)] ?_
    refine xRe ?_
    refine wpq_then ?_
    have eS := (Option.some.inj hS).symm
    subst eS
    exact xRet [some 0] [2] (e3.trans e6) ⟨A4_0, c4_0, k4_0, by kernel_rfl, by kernel_rfl, h4_0⟩ (fun _ _ h => h)
  · intro uu4 hS hN4
    refine xBl 0 ?_
    refine xSel [none, some 0] ?_
    refine xSub [(0, Value.pointer (some a_b)), (3, Value.slice none 0 0), (7, vs A1_0 y1 c1_0), (8, vi (((y1).length : Nat) : Int)), (9, vi 0)] ?_
    refine xLo hS (fun g own sl s9 => ∃ (A9_0 : Option Addr) (c9_0 : Nat) (k9_0 : Option Bk), own = [k9_0, k1_0] ∧ sl = [(0, Value.pointer (some a_b)), (3, vs A9_0 s9.1 c9_0), (7, vs A1_0 y1 c1_0), (8, vi (((y1).length : Nat) : Int)), (9, vi ((s9.2 : Nat) : Int))] ∧ Buf g.b tyS 9 (.slice A9_0 (s9.1).length c9_0) k9_0 s9.1) ⟨none, 0, none, by kernel_rfl, by kernel_rfl, Buf.nil⟩ ?_
    rintro g10 _ _ s9 uu9 e11 ⟨A9_0, c9_0, k9_0, rfl, rfl, h9_0⟩ hS Qr9 hN9 hD9
    have nh9_0 := h9_0.len
    unfold o20_L0 at hS
    refine xSq ?_
    refine xRg ?_
    refine xB 1 [] [(0, Value.pointer (some a_b)), (3, vs A9_0 s9.1 c9_0), (7, vs A1_0 y1 c1_0), (8, vi (((y1).length : Nat) : Int)), (9, vi ((s9.2 : Nat) : Int)), (10, vb (decide (((s9.2 : Nat) : Int) < (((y1).length : Nat) : Int))))] ?_
    refine xRe ?_
    refine wpq_then ?_
    refine xSq ?_
    refine xCd (decide (((s9.2 : Nat) : Int) < (((y1).length : Nat) : Int))) (fun h12 => ?_) (fun h12 => ?_)
    · have hS := cond_T h12 hS
      have h12p := of_decide_eq_true h12
      refine xSk ?_
      refine wpq_then ?_
      refine xSub [(0, Value.pointer (some a_b)), (3, vs A9_0 s9.1 c9_0), (7, vs A1_0 y1 c1_0), (8, vi (((y1).length : Nat) : Int)), (9, vi ((s9.2 : Nat) : Int))] ?_
      refine xSq ?_
      refine xBl 1 ?_
      refine xSq ?_
      refine xRg ?_
      have h1_0 := h1_0.mono e11.b
      have i14 : s9.2 < (y1).length := by omega
      obtain ⟨kc13, cs13, hA13, hk13, hr13, hw13⟩ := h1_0.open_ i14 0
      obtain ⟨kb13, rfl⟩ : ∃ z, z = kc13 := ⟨_, rfl⟩
      subst hk13
      have hr13 : cs13 = [vi (List.getD y1 s9.2 0)] := hr13
      subst hr13
      refine xV (qIxB s9.2 1 kb13.g hA13 rfl i14) ?_
      refine xV (qLdB s9.2 1 0 1 hw13) ?_
      refine xB 1 [] [(0, Value.pointer (some a_b)), (3, vs A9_0 s9.1 c9_0), (5, vi (List.getD y1 s9.2 0)), (7, vs A1_0 y1 c1_0), (8, vi (((y1).length : Nat) : Int)), (9, vi ((s9.2 : Nat) : Int))] ?_
      refine xRe ?_
      refine wpq_then ?_
      refine xRg ?_
      have hc_b := hc_b.mono (e3.trans e11).r
      refine xB 4 [] [(0, Value.pointer (some a_b)), (3, vs A9_0 s9.1 c9_0), (5, vi (List.getD y1 s9.2 0)), (7, vs A1_0 y1 c1_0), (8, vi (((y1).length : Nat) : Int)), (9, vi ((s9.2 : Nat) : Int)), (13, vs A9_0 s9.1 c9_0), (16, Value.pointer (some a_b))] ?_
      refine xV (qLdP a_b 0 hc_b) ?_
      have fb_defs := fb_defs.mono (e3.trans e11).r
      obtain ⟨q16, hS⟩ := grd_T hS
      have q16p := of_decide_eq_true q16
      have i17 : ((List.getD y1 s9.2 0)).toNat < (b.defs).length := by omega
      obtain ⟨ad15, cs15, hA15, hr15, hc15⟩ := fb_defs.at_ (get_getD (d := default) i17)
      obtain ⟨rfl⟩ := hr15
      refine xB 1 [] [(0, Value.pointer (some a_b)), (3, vs A9_0 s9.1 c9_0), (7, vs A1_0 y1 c1_0), (8, vi (((y1).length : Nat) : Int)), (9, vi ((s9.2 : Nat) : Int)), (13, vs A9_0 s9.1 c9_0), (17, vs Ab_defs b.defs cb_defs), (18, vi (List.getD y1 s9.2 0))] ?_
      refine xV (qIx ((List.getD y1 s9.2 0)).toNat 3 hA15 (show ((List.getD y1 s9.2 0) : Int) = _ from by omega) i17) ?_
      refine xB 1 [] [(0, Value.pointer (some a_b)), (3, vs A9_0 s9.1 c9_0), (7, vs A1_0 y1 c1_0), (8, vi (((y1).length : Nat) : Int)), (9, vi ((s9.2 : Nat) : Int)), (13, vs A9_0 s9.1 c9_0), (20, Value.pointer (some (Addr.add ad15 (((List.getD y1 s9.2 0)).toNat * 3))))] ?_
      refine xV (qLdP (Addr.add ad15 (((List.getD y1 s9.2 0)).toNat * 3)) 0 hc15) ?_
      refine xE (eBs (T := tyS) (p := g10.b) (et := 9) (xs := ([((List.getD b.defs ((List.getD y1 s9.2 0)).toNat default).name : List UInt8)] : List (List UInt8))) (reps_cons (c := [vt ((List.getD b.defs ((List.getD y1 s9.2 0)).toNat default).name)]) (show tyS.rep _ _ _ from rfl) reps_nil) (by simp)) ?_
      rintro _ _ _ - ⟨A18, c18, k18, rfl, rfl, rfl, h18⟩
      obtain ⟨nw19, hp19, hs19⟩ := h18.srcO (g := g10)
      obtain ⟨q20, hS⟩ := grd_T hS
      have q20p := of_decide_eq_true q20
      refine xE (eApp (T := tyS) (p := g10.b) (et := 9) (bytes := 16) (xs := (s9.1 : List (List UInt8))) (ys := (([((List.getD b.defs ((List.getD y1 s9.2 0)).toNat default).name : List UInt8)] : List (List UInt8)) : List (List UInt8))) 1 h9_0 rfl (fun w hs => hs19 0 w _ hs (by kernel_rfl)) hp19 (by first | omega | (simp only [List.length_cons, List.length_nil] at *; omega)) (by first | omega | (simp only [List.length_cons, List.length_nil] at *; omega))) ?_
      rintro _ _ _ - ⟨A19, c19, k19, rfl, rfl, rfl, h19⟩
      have nh19 := h19.len
      have hz19 : ((s9.1 ++ ([((List.getD b.defs ((List.getD y1 s9.2 0)).toNat default).name : List UInt8)] : List (List UInt8))) : List (List UInt8)).length = (s9.1).length + (([((List.getD b.defs ((List.getD y1 s9.2 0)).toNat default).name : List UInt8)] : List (List UInt8))).length := List.length_append
      refine xB 1 [] [(0, Value.pointer (some a_b)), (3, vs A19 (s9.1 ++ ([((List.getD b.defs ((List.getD y1 s9.2 0)).toNat default).name : List UInt8)] : List (List UInt8))) c19), (7, vs A1_0 y1 c1_0), (8, vi (((y1).length : Nat) : Int)), (9, vi ((s9.2 : Nat) : Int))] ?_
      refine xRe ?_
      refine wpq_blockN ?_
      refine wpq_then ?_
      refine xRg ?_
      obtain ⟨q21, hS⟩ := grd_T hS
      have q21p := of_decide_eq_true q21
      refine xV (qAdd .i64 (((s9.2 : Nat) : Int)) (1) (wr64 (by omega))) ?_
      refine xB 1 [] [(0, Value.pointer (some a_b)), (3, vs A19 (s9.1 ++ ([((List.getD b.defs ((List.getD y1 s9.2 0)).toNat default).name : List UInt8)] : List (List UInt8))) c19), (7, vs A1_0 y1 c1_0), (8, vi (((y1).length : Nat) : Int)), (9, vi (((s9.2 : Nat) : Int) + 1))] ?_
      refine xRe ?_
      refine wpq_thenN ?_
      refine xSel [some 1, some 2] ?_
      refine xSub [(0, Value.pointer (some a_b)), (3, vs A19 (s9.1 ++ ([((List.getD b.defs ((List.getD y1 s9.2 0)).toNat default).name : List UInt8)] : List (List UInt8))) c19), (7, vs A1_0 y1 c1_0), (8, vi (((y1).length : Nat) : Int)), (9, vi (((s9.2 : Nat) : Int) + 1))] ?_
      have eS := (Option.some.inj hS).symm
      exact hN9 _ eS _ _ _ (Gh.le.refl _) ⟨A19, c19, k19, by kernel_rfl, by kernel_rfl, h19⟩
    · have hS := cond_F h12 hS
      have h12p := of_decide_eq_false h12
      refine xEx 0 ?_
      refine wpq_thenX ?_
      refine wpq_thenX ?_
      refine wpq_blockE ?_
      refine xSel [some 0] ?_
      refine xSub [(3, vs A9_0 s9.1 c9_0)] ?_
      have eS := (Option.some.inj hS).symm
      have eS := (hD9 _ eS).symm
      exact hN4 _ eS _ _ _ e11 ⟨A9_0, c9_0, k9_0, by kernel_rfl, by kernel_rfl, h9_0⟩

def o17n (conds : Int) (phase : Int) : Int :=
  ((1 : Int))
set_option maxRecDepth 100000 in
theorem c17n (g : Gh) (conds : Int) (phase : Int) {r : Int} (hS : o17n conds phase = r) :
    Ctr Try.prog 17 [vn, Value.int .u16 conds, vy phase] g [] (fun v ψ o => v = vi r ∧ o = []) := by
  unfold o17n at hS
  refine xFn Try.f17 (Try.f17.body.getD .skip) 74 ?_
  refine xSq ?_
  refine xRg ?_
  refine xB 1 [] [(0, vn), (1, Value.int .u16 conds), (2, vy phase)] ?_
  refine xRe ?_
  refine wpq_then ?_
  refine xSq ?_
  refine xSq ?_
  refine xRg ?_
  refine xB 2 [] [(0, vn), (1, Value.int .u16 conds), (2, vy phase), (10, vb true)] ?_
  refine xRe ?_
  refine wpq_then ?_
  refine xCt ?_
  refine xSq ?_
  refine xRg ?_
  refine xB 1 [] [(6, vi 1)] ?_
  refine xRe ?_
  refine wpq_then ?_
  have eS := hS.symm
  subst eS
  exact xRet [] [6] (Gh.le.refl _) ⟨by kernel_rfl, by kernel_rfl⟩ (fun _ _ h => h)

def o18n (i : Int) : Int :=
  ((1 : Int))
set_option maxRecDepth 100000 in
theorem c18n (g : Gh) (i : Int) {r : Int} (hS : o18n i = r) :
    Ctr Try.prog 18 [vn, vi i] g [] (fun v ψ o => v = vi r ∧ o = []) := by
  unfold o18n at hS
  refine xFn Try.f18 (Try.f18.body.getD .skip) 29 ?_
  refine xSq ?_
  refine xRg ?_
  refine xB 1 [] [(0, vn), (1, vi i)] ?_
  refine xRe ?_
  refine wpq_then ?_
  refine xSq ?_
  refine xSq ?_
  refine xRg ?_
  refine xB 2 [] [(0, vn), (1, vi i), (6, vb true)] ?_
  refine xRe ?_
  refine wpq_then ?_
  refine xCt ?_
  refine xSq ?_
  refine xRg ?_
  refine xB 1 [] [(4, vi 1)] ?_
  refine xRe ?_
  refine wpq_then ?_
  have eS := hS.symm
  subst eS
  exact xRet [] [4] (Gh.le.refl _) ⟨by kernel_rfl, by kernel_rfl⟩ (fun _ _ h => h)

def o19n : (List Int) :=
  (([] : List Int))
set_option maxRecDepth 100000 in
theorem c19n (g : Gh)  {r : (List Int)} (hS : o19n = r) :
    Ctr Try.prog 19 [vn] g [] (fun v ψ o => ∃ (Ar_0 : Option Addr) (cr_0 : Nat), v = vs Ar_0 r cr_0 ∧ o = [] ∧ Arr ψ (tyI .i64) Ar_0 cr_0 r) := by
  unfold o19n at hS
  refine xFn Try.f19 (Try.f19.body.getD .skip) 27 ?_
  refine xSq ?_
  refine xRg ?_
  refine xE eB ?_
  rintro _ _ _ - ⟨b1, rfl, rfl, rfl⟩
  refine xB 1 [] [(1, vp b1 0)] ?_
  refine xRe ?_
  refine wpq_then ?_
  refine xSq ?_
  refine xSq ?_
  refine xRg ?_
  refine xB 2 [(0, 0)] [(1, vp b1 0), (6, vb true)] ?_
  refine xRe ?_
  refine wpq_then ?_
  refine xCt ?_
  refine xSq ?_
  refine xRg ?_
  refine xB 1 [] [(2, Value.slice none 0 0)] ?_
  refine xRe ?_
  refine wpq_then ?_
  have eS := hS.symm
  subst eS
  exact xRet [] [2] (Gh.le.refl _) ⟨none, 0, by kernel_rfl, by kernel_rfl, Arr.nil⟩ (fun _ _ h => h)

def o24n_L0 (y1 : (List Int)) (s8 : Nat) : Option (Ctl (Nat) (Unit)) :=
  (cond (decide (((s8 : Nat) : Int) < (((y1).length : Nat) : Int))) none (some (Ctl.done (()))))
def o24n : Option (Int) :=
  (letJ (τ := (List Int)) (o19n) fun y1 => (bindO (τ := Unit) (loopO (σ := Nat) (ρ := Unit) fuelN (o24n_L0 y1) (0)) fun t4 => (some (((((y1).length : Nat) : Int) : Int)))))
set_option maxRecDepth 100000 in
theorem c24n (g : Gh)  {r : Int} (hS : o24n = some r) :
    Ctr Try.prog 24 [vn] g [] (fun v ψ o => v = vi r ∧ o = []) := by
  unfold o24n at hS
  refine xFn Try.f24 (Try.f24.body.getD .skip) 24 ?_
  refine xSq ?_
  refine xRg ?_
  refine xB 1 [] [(0, vn)] ?_
  refine xRe ?_
  refine wpq_then ?_
  refine xSq ?_
  refine xRg ?_
  refine xB 1 [] [(0, vn), (6, vn)] ?_
  obtain ⟨y1, hy1, hS⟩ := letJ_T hS
  refine xE (eC 0 (fun g' lr eb ln => c19n g'  hy1)) ?_
  rintro _ g2 _ e3 ⟨_, rfl, A1_0, c1_0, rfl, rfl, f1_0⟩
  have nf1_0 := f1_0.len
  refine xB 1 [] [(0, vn), (3, vs A1_0 y1 c1_0)] ?_
  refine xRe ?_
  refine wpq_then ?_
  refine xSq ?_
  refine xSq ?_
  refine xRg ?_
  refine xB 3 [] [(0, vn), (3, vs A1_0 y1 c1_0), (8, vs A1_0 y1 c1_0), (9, vi (((y1).length : Nat) : Int)), (10, vi 0)] ?_
  refine xRe ?_
  refine wpq_then ?_
  refine xBindO hS (fun g own sl t4 => own = [] ∧ sl = [(3, vs A1_0 y1 c1_0)]) ?_ ?_
  · rintro g5 _ _ t4 e6 ⟨rfl, rfl⟩ hS
    refine wpq_then ?_
    refine xSq ?_
    refine xRg ?_
    refine xB 3 [] [(2, vi (((y1).length : Nat) : Int))] ?_
    refine xRe ?_
    refine wpq_then ?_
    have eS := (Option.some.inj hS).symm
    subst eS
    exact xRet [] [2] (e3.trans e6) ⟨by kernel_rfl, by kernel_rfl⟩ (fun _ _ h => h)
  · intro uu4 hS hN4
    refine xBl 0 ?_
    refine xSub [(0, vn), (3, vs A1_0 y1 c1_0), (8, vs A1_0 y1 c1_0), (9, vi (((y1).length : Nat) : Int)), (10, vi 0)] ?_
    refine xLo hS (fun g own sl s8 => own = [] ∧ sl = [(0, vn), (3, vs A1_0 y1 c1_0), (8, vs A1_0 y1 c1_0), (9, vi (((y1).length : Nat) : Int)), (10, vi ((s8 : Nat) : Int))]) ⟨by kernel_rfl, by kernel_rfl⟩ ?_
    rintro g9 _ _ s8 uu8 e10 ⟨rfl, rfl⟩ hS Qr8 hN8 hD8
    unfold o24n_L0 at hS
    refine xSq ?_
    refine xRg ?_
    refine xB 1 [] [(0, vn), (3, vs A1_0 y1 c1_0), (8, vs A1_0 y1 c1_0), (9, vi (((y1).length : Nat) : Int)), (10, vi ((s8 : Nat) : Int)), (11, vb (decide (((s8 : Nat) : Int) < (((y1).length : Nat) : Int))))] ?_
    refine xRe ?_
    refine wpq_then ?_
    refine xSq ?_
    refine xCd (decide (((s8 : Nat) : Int) < (((y1).length : Nat) : Int))) (fun h11 => ?_) (fun h11 => ?_)
    · have hS := cond_T h11 hS
      have h11p := of_decide_eq_true h11
      refine xSk ?_
      refine wpq_then ?_
      refine xSub [(0, vn), (3, vs A1_0 y1 c1_0), (8, vs A1_0 y1 c1_0), (9, vi (((y1).length : Nat) : Int)), (10, vi ((s8 : Nat) : Int))] ?_
      refine xSq ?_
      refine xBl 1 ?_
      refine xSq ?_
      refine xRg ?_
      have f1_0 := f1_0.mono e10.b
      have i13 : s8 < (y1).length := by omega
      obtain ⟨ad12, cs12, hA12, hr12, hc12⟩ := f1_0.at_ (get_getD (d := 0) i13)
      have hr12 : cs12 = [vi (List.getD y1 s8 0)] := hr12
      subst hr12
      refine xV (qIx s8 1 hA12 rfl i13) ?_
      refine xV (qLdP (Addr.add ad12 (s8 * 1)) 0 (hc12.mono g9.br)) ?_
      refine xB 1 [] [(0, vn), (3, vs A1_0 y1 c1_0), (5, vi (List.getD y1 s8 0)), (8, vs A1_0 y1 c1_0), (9, vi (((y1).length : Nat) : Int)), (10, vi ((s8 : Nat) : Int))] ?_
      refine xRe ?_
      refine wpq_then ?_
      refine xRg ?_
      cases hS
    · have hS := cond_F h11 hS
      have h11p := of_decide_eq_false h11
      refine xEx 0 ?_
      refine wpq_thenX ?_
      refine wpq_thenX ?_
      refine wpq_blockE ?_
      refine xSub [(3, vs A1_0 y1 c1_0)] ?_
      have eS := (Option.some.inj hS).symm
      have eS := (hD8 _ eS).symm
      exact hN4 _ eS _ _ _ e10 ⟨by kernel_rfl, by kernel_rfl⟩

def o23n : (List Int) :=
  (([] : List Int))
set_option maxRecDepth 100000 in
theorem c23n (g : Gh)  {r : (List Int)} (hS : o23n = r) :
    Ctr Try.prog 23 [vn] g [] (fun v ψ o => ∃ (Ar_0 : Option Addr) (cr_0 : Nat), v = vs Ar_0 r cr_0 ∧ o = [] ∧ Arr ψ (tyI .i64) Ar_0 cr_0 r) := by
  unfold o23n at hS
  refine xFn Try.f23 (Try.f23.body.getD .skip) 27 ?_
  refine xSq ?_
  refine xRg ?_
  refine xB 1 [] [(0, vn)] ?_
  refine xRe ?_
  refine wpq_then ?_
  refine xSq ?_
  refine xSq ?_
  refine xRg ?_
  refine xB 2 [] [(0, vn), (7, vb true)] ?_
  refine xRe ?_
  refine wpq_then ?_
  refine xCt ?_
  refine xSq ?_
  refine xRg ?_
  refine xB 1 [] [(2, Value.slice none 0 0)] ?_
  refine xRe ?_
  refine wpq_then ?_
  have eS := hS.symm
  subst eS
  exact xRet [] [2] (Gh.le.refl _) ⟨none, 0, by kernel_rfl, by kernel_rfl, Arr.nil⟩ (fun _ _ h => h)

def o21n : Option (Int) :=
  (letJ (τ := (List Int)) (o19n) fun y1 => (cond (((((y1).length : Nat) : Int) == 0)) (some ((0 : Int))) none))
set_option maxRecDepth 100000 in
theorem c21n (g : Gh)  {r : Int} (hS : o21n = some r) :
    Ctr Try.prog 21 [vn] g [] (fun v ψ o => v = vy r ∧ o = []) := by
  unfold o21n at hS
  refine xFn Try.f21 (Try.f21.body.getD .skip) 19 ?_
  refine xSq ?_
  refine xRg ?_
  refine xB 1 [] [(0, vn)] ?_
  refine xRe ?_
  refine wpq_then ?_
  refine xSq ?_
  refine xRg ?_
  refine xB 1 [] [(0, vn), (4, vn)] ?_
  obtain ⟨y1, hy1, hS⟩ := letJ_T hS
  refine xE (eC 0 (fun g' lr eb ln => c19n g'  hy1)) ?_
  rintro _ g2 _ e3 ⟨_, rfl, A1_0, c1_0, rfl, rfl, f1_0⟩
  have nf1_0 := f1_0.len
  refine xB 1 [] [(0, vn), (3, vs A1_0 y1 c1_0)] ?_
  refine xRe ?_
  refine wpq_then ?_
  refine xSq ?_
  refine xSq ?_
  refine xRg ?_
  refine xB 3 [] [(0, vn), (3, vs A1_0 y1 c1_0), (8, vb ((((y1).length : Nat) : Int) == 0))] ?_
  refine xRe ?_
  refine wpq_then ?_
  refine xCd (((((y1).length : Nat) : Int) == 0)) (fun h4 => ?_) (fun h4 => ?_)
  · have hS := cond_T h4 hS
    have h4p : (((y1).length : Nat) : Int) = 0 := eq_of_beq h4
    refine xSq ?_
    refine xRg ?_
    refine xB 1 [] [(2, vy 0)] ?_
    refine xRe ?_
    refine wpq_then ?_
    have eS := (Option.some.inj hS).symm
    subst eS
    exact xRet [] [2] e3 ⟨by kernel_rfl, by kernel_rfl⟩ (fun _ _ h => h)
  · have hS := cond_F h4 hS
    have h4p : ¬ ((((y1).length : Nat) : Int) = 0) := ne_of_beq_false_ h4
    refine xSk ?_
    refine wpq_then ?_
    refine xSub [(0, vn), (3, vs A1_0 y1 c1_0)] ?_
    refine xSq ?_
    refine xDr 0 [3, 6, 9] [10] [] 11 (fun RG => ?_) (fun _ _ _ _ _ h => h)
    cases hS

def o20n_L0 (y1 : (List Int)) (s8 : (List (List UInt8)) × Nat) : Option (Ctl ((List (List UInt8)) × Nat) ((List (List UInt8)))) :=
  (cond (decide (((s8.2 : Nat) : Int) < (((y1).length : Nat) : Int))) none (some (Ctl.done ((s8.1 : List (List UInt8))))))
def o20n : Option ((List (List UInt8))) :=
  (letJ (τ := (List Int)) (o19n) fun y1 => (bindO (τ := (List (List UInt8))) (loopO (σ := (List (List UInt8)) × Nat) (ρ := (List (List UInt8))) fuelN (o20n_L0 y1) (([] : List (List UInt8)), 0)) fun t4 => (some ((t4 : List (List UInt8))))))
set_option maxRecDepth 100000 in
theorem c20n (g : Gh)  {r : (List (List UInt8))} (hS : o20n = some r) :
    Ctr Try.prog 20 [vn] g [] (fun v ψ o => ∃ (Ar_0 : Option Addr) (cr_0 : Nat) (kr_0 : Option Bk), v = vs Ar_0 r cr_0 ∧ o = [kr_0] ∧ Buf ψ tyS 9 (.slice Ar_0 (r).length cr_0) kr_0 r) := by
  unfold o20n at hS
  refine xFn Try.f20 (Try.f20.body.getD .skip) 26 ?_
  refine xSq ?_
  refine xRg ?_
  refine xB 1 [] [(0, vn)] ?_
  refine xRe ?_
  refine wpq_then ?_
  refine xSq ?_
  refine xRg ?_
  refine xB 1 [] [(0, vn), (3, Value.slice none 0 0)] ?_
  refine xRe ?_
  refine wpq_then ?_
  refine xSq ?_
  refine xSq ?_
  refine xRg ?_
  refine xB 1 [] [(0, vn), (3, Value.slice none 0 0), (6, vn)] ?_
  obtain ⟨y1, hy1, hS⟩ := letJ_T hS
  refine xE (eC 0 (fun g' lr eb ln => c19n g'  hy1)) ?_
  rintro _ g2 _ e3 ⟨_, rfl, A1_0, c1_0, rfl, rfl, f1_0⟩
  have nf1_0 := f1_0.len
  refine xB 2 [] [(0, vn), (3, Value.slice none 0 0), (7, vs A1_0 y1 c1_0), (8, vi (((y1).length : Nat) : Int)), (9, vi 0)] ?_
  refine xRe ?_
  refine wpq_then ?_
  refine xBindO hS (fun g own sl t4 => ∃ (A4_0 : Option Addr) (c4_0 : Nat) (k4_0 : Option Bk), own = [k4_0] ∧ sl = [(3, vs A4_0 t4 c4_0)] ∧ Buf g.b tyS 9 (.slice A4_0 (t4).length c4_0) k4_0 t4) ?_ ?_
  · rintro g5 _ _ t4 e6 ⟨A4_0, c4_0, k4_0, rfl, rfl, h4_0⟩ hS
    have nh4_0 := h4_0.len
    refine wpq_then ?_
    refine xSq ?_
    refine xRg ?_
    refine xB 2 [] [(2, vs A4_0 t4 c4_0)] ?_
    refine xRe ?_
    refine wpq_then ?_
    have eS := (Option.some.inj hS).symm
    subst eS
    exact xRet [some 0] [2] (e3.trans e6) ⟨A4_0, c4_0, k4_0, by kernel_rfl, by kernel_rfl, h4_0⟩ (fun _ _ h => h)
  · intro uu4 hS hN4
    refine xBl 0 ?_
    refine xSel [none] ?_
    refine xSub [(0, vn), (3, Value.slice none 0 0), (7, vs A1_0 y1 c1_0), (8, vi (((y1).length : Nat) : Int)), (9, vi 0)] ?_
    refine xLo hS (fun g own sl s8 => ∃ (A8_0 : Option Addr) (c8_0 : Nat) (k8_0 : Option Bk), own = [k8_0] ∧ sl = [(0, vn), (3, vs A8_0 s8.1 c8_0), (7, vs A1_0 y1 c1_0), (8, vi (((y1).length : Nat) : Int)), (9, vi ((s8.2 : Nat) : Int))] ∧ Buf g.b tyS 9 (.slice A8_0 (s8.1).length c8_0) k8_0 s8.1) ⟨none, 0, none, by kernel_rfl, by kernel_rfl, Buf.nil⟩ ?_
    rintro g9 _ _ s8 uu8 e10 ⟨A8_0, c8_0, k8_0, rfl, rfl, h8_0⟩ hS Qr8 hN8 hD8
    have nh8_0 := h8_0.len
    unfold o20n_L0 at hS
    refine xSq ?_
    refine xRg ?_
    refine xB 1 [] [(0, vn), (3, vs A8_0 s8.1 c8_0), (7, vs A1_0 y1 c1_0), (8, vi (((y1).length : Nat) : Int)), (9, vi ((s8.2 : Nat) : Int)), (10, vb (decide (((s8.2 : Nat) : Int) < (((y1).length : Nat) : Int))))] ?_
    refine xRe ?_
    refine wpq_then ?_
    refine xSq ?_
    refine xCd (decide (((s8.2 : Nat) : Int) < (((y1).length : Nat) : Int))) (fun h11 => ?_) (fun h11 => ?_)
    · have hS := cond_T h11 hS
      have h11p := of_decide_eq_true h11
      refine xSk ?_
      refine wpq_then ?_
      refine xSub [(0, vn), (3, vs A8_0 s8.1 c8_0), (7, vs A1_0 y1 c1_0), (8, vi (((y1).length : Nat) : Int)), (9, vi ((s8.2 : Nat) : Int))] ?_
      refine xSq ?_
      refine xBl 1 ?_
      refine xSq ?_
      refine xRg ?_
      have f1_0 := f1_0.mono e10.b
      have i13 : s8.2 < (y1).length := by omega
      obtain ⟨ad12, cs12, hA12, hr12, hc12⟩ := f1_0.at_ (get_getD (d := 0) i13)
      have hr12 : cs12 = [vi (List.getD y1 s8.2 0)] := hr12
      subst hr12
      refine xV (qIx s8.2 1 hA12 rfl i13) ?_
      refine xV (qLdP (Addr.add ad12 (s8.2 * 1)) 0 (hc12.mono g9.br)) ?_
      refine xB 1 [] [(0, vn), (3, vs A8_0 s8.1 c8_0), (5, vi (List.getD y1 s8.2 0)), (7, vs A1_0 y1 c1_0), (8, vi (((y1).length : Nat) : Int)), (9, vi ((s8.2 : Nat) : Int))] ?_
      refine xRe ?_
      refine wpq_then ?_
      refine xRg ?_
      cases hS
    · have hS := cond_F h11 hS
      have h11p := of_decide_eq_false h11
      refine xEx 0 ?_
      refine wpq_thenX ?_
      refine wpq_thenX ?_
      refine wpq_blockE ?_
      refine xSub [(3, vs A8_0 s8.1 c8_0)] ?_
      have eS := (Option.some.inj hS).symm
      have eS := (hD8 _ eS).symm
      exact hN4 _ eS _ _ _ e10 ⟨A8_0, c8_0, k8_0, by kernel_rfl, by kernel_rfl, h8_0⟩

def o22n : (List UInt8) :=
  (([] : List UInt8))
set_option maxRecDepth 100000 in
theorem c22n (g : Gh)  {r : (List UInt8)} (hS : o22n = r) :
    Ctr Try.prog 22 [vn] g [] (fun v ψ o => ∃ (Ar_0 : Option Addr) (cr_0 : Nat), v = vs Ar_0 r cr_0 ∧ o = [] ∧ Arr ψ tyU8 Ar_0 cr_0 r) := by
  unfold o22n at hS
  refine xFn Try.f22 (Try.f22.body.getD .skip) 46 ?_
  refine xSq ?_
  refine xRg ?_
  refine xB 1 [] [(0, vn)] ?_
  refine xRe ?_
  refine wpq_then ?_
  refine xSq ?_
  refine xSq ?_
  refine xRg ?_
  refine xB 2 [] [(0, vn), (8, vb true)] ?_
  refine xRe ?_
  refine wpq_then ?_
  refine xCt ?_
  refine xSq ?_
  refine xRg ?_
  refine xB 1 [] [(2, Value.slice none 0 0)] ?_
  refine xRe ?_
  refine wpq_then ?_
  have eS := hS.symm
  subst eS
  exact xRet [] [2] (Gh.le.refl _) ⟨none, 0, by kernel_rfl, by kernel_rfl, Arr.nil⟩ (fun _ _ h => h)

def o7_L0 (t13 : Bool × Board) (y48 : (List Int)) (s108 : Nat) : Option (Ctl (Nat) (Ctl (Unit) (Bool))) :=
  (cond (decide (((s108 : Nat) : Int) < (((y48).length : Nat) : Int))) (bindO (τ := (List (List UInt8))) (o20 t13.2) fun y114 => (grd (decide (s108 < (y114).length)) (bindO (τ := (List AlertDef)) (o15) fun y120 => (grd (decide (0 ≤ (List.getD y48 s108 0) ∧ (List.getD y48 s108 0) < (((y120).length : Nat) : Int))) (cond ((!((List.getD y114 s108 []) == (List.getD y120 ((List.getD y48 s108 0)).toNat default).name))) (some (Ctl.done (Ctl.done ((false))))) (grd (decide (((s108 : Nat) : Int) + 1 ≤ 9223372036854775807)) (some (Ctl.go (s108 + 1))))))))) (some (Ctl.done (Ctl.go ()))))
def o7_L1 (y35 : (List Int)) (s345 : Nat) : Option (Ctl (Nat) (Ctl (Unit) (Bool))) :=
  (cond (decide (((s345 : Nat) : Int) < (((y35).length : Nat) : Int))) (cond ((decide ((List.getD y35 s345 0) < 0) || decide ((List.getD y35 s345 0) > 15))) (some (Ctl.done (Ctl.done ((false))))) (grd (decide (((s345 : Nat) : Int) + 1 ≤ 9223372036854775807)) (some (Ctl.go (s345 + 1))))) (some (Ctl.done (Ctl.go ()))))
def o7_L2 (y29 : (List UInt8)) (s356 : (List UInt8) × Nat) : Option (Ctl ((List UInt8) × Nat) (Unit)) :=
  (cond (decide (((s356.2 : Nat) : Int) < (((y29).length : Nat) : Int))) (grd (decide (s356.2 < (s356.1).length)) (grd (decide (s356.2 < (s356.1).length)) (grd (decide (((s356.2 : Nat) : Int) + 1 ≤ 9223372036854775807)) (some (Ctl.go (((List.set s356.1 s356.2 (u8 (IntKind.u8.wrap (((List.getD s356.1 s356.2 0).toNat : Int) + 1)))) : List UInt8), (s356.2 + 1))))))) (some (Ctl.done (()))))
def o7_L3 (t13 : Bool × Board) (y20 : (List Int)) (s368 : (List Int) × Nat) : Option (Ctl ((List Int) × Nat) (Unit)) :=
  (cond (decide (((s368.2 : Nat) : Int) < (((y20).length : Nat) : Int))) (bindO (τ := (List (List UInt8))) (o20 t13.2) fun y372 => (grd (decide (s368.2 < (y372).length)) (grd (decide (s368.2 < (s368.1).length)) (grd (decide (((s368.2 : Nat) : Int) + 1 ≤ 9223372036854775807)) (some (Ctl.go (((List.set s368.1 s368.2 (99 : Int)) : List Int), (s368.2 + 1)))))))) (some (Ctl.done (()))))
def o7_L4 (y5 : (List AlertDef)) (s384 : (List AlertDef) × Nat) : Option (Ctl ((List AlertDef) × Nat) (Unit)) :=
  (cond (decide (((s384.2 : Nat) : Int) < (((y5).length : Nat) : Int))) (grd (decide (s384.2 < (s384.1).length)) (grd (decide (((s384.2 : Nat) : Int) + 1 ≤ 9223372036854775807)) (some (Ctl.go (((List.set s384.1 s384.2 (⟨([] : List UInt8), 0, 0⟩ : AlertDef)) : List AlertDef), (s384.2 + 1)))))) (some (Ctl.done (()))))
def o7 (conds : Int) (i : Int) : Option (Bool) :=
  (bindO (τ := Bool) (o10) fun y1 => (cond ((!y1)) (some ((false))) (bindO (τ := (List AlertDef)) (o15) fun y5 => (bindO (τ := (Option Board) × Int) (o12 (y5 : List AlertDef)) fun y8 => (bindO (τ := Board) (y8.1) fun d12 => (bindO (τ := Bool × Board) (cond (((y8.2 != 0) || (Option.isNone (y8.1)))) (some (true, (d12 : Board))) (bindO (τ := Board × Int) (o17 d12 (conds : Int) (4 : Int)) fun y393 => (some ((y393.2 != 0), (y393.1 : Board))))) fun t13 => (cond (t13.1) (some ((false))) (bindO (τ := (List UInt8)) (o22 t13.2) fun y17 => (bindO (τ := (List Int)) (o19 t13.2) fun y20 => (bindO (τ := Unit) (loopO (σ := (List AlertDef) × Nat) (ρ := Unit) fuelN (o7_L4 y5) ((y5 : List AlertDef), 0)) fun t23 => (bindO (τ := Unit) (loopO (σ := (List Int) × Nat) (ρ := Unit) fuelN (o7_L3 t13 y20) ((y20 : List Int), 0)) fun t26 => (bindO (τ := (List UInt8)) (o22 t13.2) fun y29 => (bindO (τ := Unit) (loopO (σ := (List UInt8) × Nat) (ρ := Unit) fuelN (o7_L2 y29) ((y29 : List UInt8), 0)) fun t32 => (bindO (τ := (List Int)) (o23 t13.2) fun y35 => (joinO (τ := Unit) (ρ := Bool) (loopO (σ := Nat) (ρ := Ctl (Unit) (Bool)) fuelN (o7_L1 y35) (0)) fun t38 => (bindO (τ := (List UInt8)) (o22 t13.2) fun y41 => (bindO (τ := Bool) (cond ((!(y41 == y17))) (some (true)) (bindO (τ := (List (List UInt8))) (o20 t13.2) fun y337 => (bindO (τ := (List Int)) (o19 t13.2) fun y340 => (some ((((y337).length : Nat) : Int) != (((y340).length : Nat) : Int)))))) fun t44 => (cond (t44) (some ((false))) (bindO (τ := (List Int)) (o19 t13.2) fun y48 => (joinO (τ := Unit) (ρ := Bool) (loopO (σ := Nat) (ρ := Ctl (Unit) (Bool)) fuelN (o7_L0 t13 y48) (0)) fun t51 => (letJ (τ := Int) (o17n (conds : Int) (4 : Int)) fun y54 => (letJ (τ := Bool) (cond ((y54 == 1)) (letJ (τ := Int) (o18n ((IntKind.i64.wrap i) : Int)) fun y103 => (y103 == 1)) (false)) fun t57 => (bindO (τ := Bool) (cond (t57) (bindO (τ := Int) (o24n) fun y99 => (some (y99 == 0))) (some (false))) fun t60 => (letJ (τ := Bool) (cond (t60) (letJ (τ := (List Int)) (o19n) fun y95 => ((((y95).length : Nat) : Int) == 0)) (false)) fun t63 => (letJ (τ := Bool) (cond (t63) (letJ (τ := (List Int)) (o23n) fun y91 => ((((y91).length : Nat) : Int) == 0)) (false)) fun t66 => (bindO (τ := Bool) (cond (t66) (bindO (τ := Int) (o21n) fun y87 => (some (y87 == 0))) (some (false))) fun t69 => (bindO (τ := Bool) (cond (t69) (bindO (τ := (List (List UInt8))) (o20n) fun y83 => (some ((((y83).length : Nat) : Int) == 0))) (some (false))) fun t72 => (letJ (τ := Bool) (cond (t72) (letJ (τ := (List UInt8)) (o22n) fun y79 => ((((y79).length : Nat) : Int) == 0)) (false)) fun t75 => (some ((t75)))))))))))))))))))))))))))))))
set_option maxRecDepth 100000 in
theorem c7 (g : Gh) (conds : Int) (i : Int) {r : Bool} (hS : o7 conds i = some r) :
    Ctr Try.prog 7 [Value.int .u16 conds, vy i] g [] (fun v ψ o => v = vb r ∧ o = []) := by
  unfold o7 at hS
  refine xFn Try.f7 (Try.f7.body.getD .skip) 174 ?_
  refine xSq ?_
  refine xRg ?_
  refine xB 1 [] [(0, Value.int .u16 conds), (1, vy i)] ?_
  refine xRe ?_
  refine wpq_then ?_
  refine xSq ?_
  refine xSq ?_
  refine xRg ?_
  obtain ⟨y1, hy1, hS⟩ := bindO_T hS
  refine xE (eC 0 (fun g' lr eb ln => c10 g'  hy1)) ?_
  rintro _ g2 _ e3 ⟨_, rfl, rfl, rfl⟩
  refine xB 1 [] [(0, Value.int .u16 conds), (1, vy i), (20, vb (!y1))] ?_
  refine xRe ?_
  refine wpq_then ?_
  refine xCd ((!y1)) (fun h4 => ?_) (fun h4 => ?_)
  · have hS := cond_T h4 hS
    have h4n := not_eq_true_ h4
    refine xSq ?_
    refine xRg ?_
    refine xB 1 [] [(4, vb false)] ?_
    refine xRe ?_
    refine wpq_then ?_
    have eS := (Option.some.inj hS).symm
    subst eS
    exact xRet [] [4] e3 ⟨by kernel_rfl, by kernel_rfl⟩ (fun _ _ h => h)
  · have hS := cond_F h4 hS
    have h4n := not_eq_false_ h4
    refine xSk ?_
    refine wpq_then ?_
    refine xSub [(0, Value.int .u16 conds), (1, vy i)] ?_
    refine xSq ?_
    refine xRg ?_
    obtain ⟨y5, hy5, hS⟩ := bindO_T hS
    refine xE (eC 0 (fun g' lr eb ln => c15 g'  hy5)) ?_
    rintro _ g6 _ e7 ⟨_, rfl, A5_0, c5_0, k5_0, rfl, rfl, h5_0⟩
    have nh5_0 := h5_0.len
    refine xB 1 [] [(0, Value.int .u16 conds), (1, vy i), (5, vs A5_0 y5 c5_0)] ?_
    refine xRe ?_
    refine wpq_then ?_
    refine xSq ?_
    refine xRg ?_
    refine xB 1 [] [(0, Value.int .u16 conds), (1, vy i), (5, vs A5_0 y5 c5_0), (23, vs A5_0 y5 c5_0)] ?_
    obtain ⟨y8, hy8, hS⟩ := bindO_T hS
    refine xE (eC 0 (fun g' lr eb ln => c12 g' (y5 : List AlertDef) A5_0 c5_0 (arrm_of_buf h5_0 eb (lentk 0 (by kernel_rfl) ln)) hy8)) ?_
    rintro _ g9 _ e10 ⟨_, rfl, v8_0, k8_0, k8_0_0, rfl, rfl, hn8_0, hs8_0⟩
    refine xB 5 [] [(0, Value.int .u16 conds), (1, vy i), (5, vs A5_0 y5 c5_0), (6, v8_0), (7, vi y8.2)] ?_
    refine xRe ?_
    refine wpq_then ?_
    refine xSq ?_
    refine xSq ?_
    refine xRg ?_
    refine xB 3 [] [(0, Value.int .u16 conds), (1, vy i), (5, vs A5_0 y5 c5_0), (6, v8_0), (29, vb (y8.2 != 0))] ?_
    refine wpr_grp 6 [(0, Value.int .u16 conds), (1, vy i), (5, vs A5_0 y5 c5_0), (6, v8_0), (32, vb ((y8.2 != 0) || (Option.isNone (y8.1))))] (fun hk2 => ?_) ?_
    · refine wpq_split 29 (b := (y8.2 != 0)) (by kernel_rfl) (fun q11 => ?_) (fun q11 => ?_)
      · have q11p : ¬ (y8.2 = 0) := ne_of_bne_ q11
        refine xB 3 [] [(0, Value.int .u16 conds), (1, vy i), (5, vs A5_0 y5 c5_0), (6, v8_0), (32, vb true)] ?_
        refine wpq_re 32 (v := vb true) (Value.bool (((y8.2 != 0) || (Option.isNone (y8.1))))) (by kernel_rfl) (re_or1 q11) ?_
        exact wpq_sub _ (by kernel_rfl) hk2
      · have q11p : y8.2 = 0 := eq_of_bne_false_ q11
        refine xB 1 [] [(0, Value.int .u16 conds), (1, vy i), (5, vs A5_0 y5 c5_0), (6, v8_0), (29, vb false), (30, v8_0)] ?_
        refine xV (qPn hn8_0 (fun d h => by obtain ⟨_, _, _, _, _, _, h1, _⟩ := hs8_0 d h; exact ⟨_, h1⟩)) ?_
        refine xB 1 [] [(0, Value.int .u16 conds), (1, vy i), (5, vs A5_0 y5 c5_0), (6, v8_0), (32, vb (Option.isNone (y8.1)))] ?_
        refine wpq_re 32 (v := vb (Option.isNone (y8.1))) (Value.bool (((y8.2 != 0) || (Option.isNone (y8.1))))) (by kernel_rfl) (re_or0 q11) ?_
        exact wpq_sub _ (by kernel_rfl) hk2
    · refine xB 1 [] [(0, Value.int .u16 conds), (1, vy i), (5, vs A5_0 y5 c5_0), (6, v8_0), (33, vb ((y8.2 != 0) || (Option.isNone (y8.1))))] ?_
      obtain ⟨d12, ed12, hS⟩ := bindO_T hS
      obtain ⟨bd12, Ad12_defs, cd12_defs, Ad12_conds, cd12_conds, kd12_conds, rfl, rfl, rfl, fd12_defs, hd12_conds⟩ := hs8_0 d12 ed12
      have nfd12_defs := fd12_defs.len
      have nhd12_conds := hd12_conds.len
      refine xGJo hS 12 (fun g own sl t13 => ∃ (A13_1_defs : Option Addr) (c13_1_defs : Nat) (A13_1_conds : Option Addr) (c13_1_conds : Nat) (k13_1_conds : Option Bk), own = [some ⟨bd12, 71, (cBoard t13.2 A13_1_defs c13_1_defs A13_1_conds c13_1_conds)⟩, k5_0, k13_1_conds] ∧ sl = [(0, Value.int .u16 conds), (1, vy i), (5, vs A5_0 y5 c5_0), (6, vp bd12 0), (38, vb t13.1)] ∧ Arr g.b tyAlertDef A13_1_defs c13_1_defs t13.2.defs ∧ Buf g.b tyCnd 79 (.slice A13_1_conds (t13.2.conds).length c13_1_conds) k13_1_conds t13.2.conds) ?_ ?_
      · rintro g14 _ _ t13 e15 ⟨A13_1_defs, c13_1_defs, A13_1_conds, c13_1_conds, k13_1_conds, rfl, rfl, f13_1_defs, h13_1_conds⟩ hS
        have nf13_1_defs := f13_1_defs.len
        have nh13_1_conds := h13_1_conds.len
        refine xRe ?_
        refine wpq_then ?_
        refine xCd (t13.1) (fun h16 => ?_) (fun h16 => ?_)
        · have hS := cond_T h16 hS
          refine xSq ?_
          refine xRg ?_
          refine xB 1 [] [(4, vb false)] ?_
          refine xRe ?_
          refine wpq_then ?_
          have eS := (Option.some.inj hS).symm
          subst eS
          exact xRet [] [4] (e3.trans (e7.trans (e10.trans e15))) ⟨by kernel_rfl, by kernel_rfl⟩ (fun _ _ h => h)
        · have hS := cond_F h16 hS
          refine xSk ?_
          refine wpq_then ?_
          refine xSub [(0, Value.int .u16 conds), (1, vy i), (5, vs A5_0 y5 c5_0), (6, vp bd12 0)] ?_
          refine xSq ?_
          refine xRg ?_
          refine xB 1 [] [(0, Value.int .u16 conds), (1, vy i), (5, vs A5_0 y5 c5_0), (6, vp bd12 0), (39, vp bd12 0)] ?_
          obtain ⟨y17, hy17, hS⟩ := bindO_T hS
          refine xE (eC 0 (fun g' lr eb ln => c22 g' ⟨bd12, 0, none⟩ t13.2 A13_1_defs c13_1_defs A13_1_conds c13_1_conds (cells_lent' 0 bd12 0 (cBoard t13.2 A13_1_defs c13_1_defs A13_1_conds c13_1_conds) ln) ((f13_1_defs.mono g14.br).mono lr) (arrm_of_buf h13_1_conds eb (lentk 2 (by kernel_rfl) ln)) hy17)) ?_
          rintro _ g18 _ e19 ⟨_, rfl, A17_0, c17_0, k17_0, rfl, rfl, h17_0⟩
          have nh17_0 := h17_0.len
          refine xV (qStrB 0 h17_0) ?_
          refine xB 1 [] [(0, Value.int .u16 conds), (1, vy i), (5, vs A5_0 y5 c5_0), (6, vp bd12 0), (8, vt y17)] ?_
          refine xRe ?_
          refine wpq_then ?_
          refine xSq ?_
          refine xRg ?_
          refine xB 1 [] [(0, Value.int .u16 conds), (1, vy i), (5, vs A5_0 y5 c5_0), (6, vp bd12 0), (8, vt y17), (42, vp bd12 0)] ?_
          have f13_1_defs := f13_1_defs.mono e19.b
          have h13_1_conds := h13_1_conds.mono e19.b
          obtain ⟨y20, hy20, hS⟩ := bindO_T hS
          refine xE (eC 0 (fun g' lr eb ln => c19 g' ⟨bd12, 0, none⟩ t13.2 A13_1_defs c13_1_defs A13_1_conds c13_1_conds (cells_lent' 1 bd12 0 (cBoard t13.2 A13_1_defs c13_1_defs A13_1_conds c13_1_conds) ln) ((f13_1_defs.mono g18.br).mono lr) (arrm_of_buf h13_1_conds eb (lentk 3 (by kernel_rfl) ln)) hy20)) ?_
          rintro _ g21 _ e22 ⟨_, rfl, A20_0, c20_0, k20_0, rfl, rfl, h20_0⟩
          have nh20_0 := h20_0.len
          refine xB 1 [] [(0, Value.int .u16 conds), (1, vy i), (5, vs A5_0 y5 c5_0), (6, vp bd12 0), (8, vt y17), (9, vs A20_0 y20 c20_0)] ?_
          refine xRe ?_
          refine wpq_then ?_
          refine xSq ?_
          refine xSq ?_
          refine xRg ?_
          refine xB 3 [] [(0, Value.int .u16 conds), (1, vy i), (5, vs A5_0 y5 c5_0), (6, vp bd12 0), (8, vt y17), (9, vs A20_0 y20 c20_0), (45, vi (((y5).length : Nat) : Int)), (46, vi 0)] ?_
          refine xRe ?_
          refine wpq_then ?_
          refine xBindO hS (fun g own sl t23 => own = [some ⟨bd12, 71, (cBoard t13.2 A13_1_defs c13_1_defs A13_1_conds c13_1_conds)⟩, k20_0, k13_1_conds] ∧ sl = [(0, Value.int .u16 conds), (1, vy i), (6, vp bd12 0), (8, vt y17), (9, vs A20_0 y20 c20_0)]) ?_ ?_
          · rintro g24 _ _ t23 e25 ⟨rfl, rfl⟩ hS
            refine wpq_then ?_
            refine xSq ?_
            refine xSq ?_
            refine xRg ?_
            refine xB 3 [] [(0, Value.int .u16 conds), (1, vy i), (6, vp bd12 0), (8, vt y17), (9, vs A20_0 y20 c20_0), (55, vi (((y20).length : Nat) : Int)), (56, vi 0)] ?_
            refine xRe ?_
            refine wpq_then ?_
            refine xBindO hS (fun g own sl t26 => own = [some ⟨bd12, 71, (cBoard t13.2 A13_1_defs c13_1_defs A13_1_conds c13_1_conds)⟩, k13_1_conds] ∧ sl = [(0, Value.int .u16 conds), (1, vy i), (6, vp bd12 0), (8, vt y17)]) ?_ ?_
            · rintro g27 _ _ t26 e28 ⟨rfl, rfl⟩ hS
              refine wpq_then ?_
              refine xSq ?_
              refine xRg ?_
              refine xB 1 [] [(0, Value.int .u16 conds), (1, vy i), (6, vp bd12 0), (8, vt y17), (67, vp bd12 0)] ?_
              have f13_1_defs := f13_1_defs.mono (e22.trans (e25.trans e28)).b
              have h13_1_conds := h13_1_conds.mono (e22.trans (e25.trans e28)).b
              obtain ⟨y29, hy29, hS⟩ := bindO_T hS
              refine xE (eC 0 (fun g' lr eb ln => c22 g' ⟨bd12, 0, none⟩ t13.2 A13_1_defs c13_1_defs A13_1_conds c13_1_conds (cells_lent' 0 bd12 0 (cBoard t13.2 A13_1_defs c13_1_defs A13_1_conds c13_1_conds) ln) ((f13_1_defs.mono g27.br).mono lr) (arrm_of_buf h13_1_conds eb (lentk 1 (by kernel_rfl) ln)) hy29)) ?_
              rintro _ g30 _ e31 ⟨_, rfl, A29_0, c29_0, k29_0, rfl, rfl, h29_0⟩
              have nh29_0 := h29_0.len
              refine xB 1 [] [(0, Value.int .u16 conds), (1, vy i), (6, vp bd12 0), (8, vt y17), (12, vs A29_0 y29 c29_0)] ?_
              refine xRe ?_
              refine wpq_then ?_
              refine xSq ?_
              refine xSq ?_
              refine xRg ?_
              refine xB 3 [] [(0, Value.int .u16 conds), (1, vy i), (6, vp bd12 0), (8, vt y17), (12, vs A29_0 y29 c29_0), (70, vi (((y29).length : Nat) : Int)), (71, vi 0)] ?_
              refine xRe ?_
              refine wpq_then ?_
              refine xBindO hS (fun g own sl t32 => own = [some ⟨bd12, 71, (cBoard t13.2 A13_1_defs c13_1_defs A13_1_conds c13_1_conds)⟩, k13_1_conds] ∧ sl = [(0, Value.int .u16 conds), (1, vy i), (6, vp bd12 0), (8, vt y17)]) ?_ ?_
              · rintro g33 _ _ t32 e34 ⟨rfl, rfl⟩ hS
                refine wpq_then ?_
                refine xSq ?_
                refine xSq ?_
                refine xRg ?_
                refine xB 1 [] [(0, Value.int .u16 conds), (1, vy i), (6, vp bd12 0), (8, vt y17), (81, vp bd12 0)] ?_
                have f13_1_defs := f13_1_defs.mono (e31.trans e34).b
                have h13_1_conds := h13_1_conds.mono (e31.trans e34).b
                obtain ⟨y35, hy35, hS⟩ := bindO_T hS
                refine xE (eC 0 (fun g' lr eb ln => c23 g' ⟨bd12, 0, none⟩ t13.2 A13_1_defs c13_1_defs A13_1_conds c13_1_conds (cells_lent' 0 bd12 0 (cBoard t13.2 A13_1_defs c13_1_defs A13_1_conds c13_1_conds) ln) ((f13_1_defs.mono g33.br).mono lr) (arrm_of_buf h13_1_conds eb (lentk 1 (by kernel_rfl) ln)) hy35)) ?_
                rintro _ g36 _ e37 ⟨_, rfl, A35_0, c35_0, k35_0, rfl, rfl, h35_0⟩
                have nh35_0 := h35_0.len
                refine xB 2 [] [(0, Value.int .u16 conds), (1, vy i), (6, vp bd12 0), (8, vt y17), (82, vs A35_0 y35 c35_0), (83, vi (((y35).length : Nat) : Int)), (84, vi 0)] ?_
                refine xRe ?_
                refine wpq_then ?_
                refine xJoinO hS (fun g own sl t38 => own = [some ⟨bd12, 71, (cBoard t13.2 A13_1_defs c13_1_defs A13_1_conds c13_1_conds)⟩, k13_1_conds] ∧ sl = [(0, Value.int .u16 conds), (1, vy i), (6, vp bd12 0), (8, vt y17)]) ?_ ?_
                · rintro g39 _ _ t38 e40 ⟨rfl, rfl⟩ hS
                  refine wpq_then ?_
                  refine xSq ?_
                  refine xSq ?_
                  refine xRg ?_
                  refine xB 1 [] [(0, Value.int .u16 conds), (1, vy i), (6, vp bd12 0), (8, vt y17), (95, vp bd12 0)] ?_
                  have f13_1_defs := f13_1_defs.mono (e37.trans e40).b
                  have h13_1_conds := h13_1_conds.mono (e37.trans e40).b
                  obtain ⟨y41, hy41, hS⟩ := bindO_T hS
                  refine xE (eC 0 (fun g' lr eb ln => c22 g' ⟨bd12, 0, none⟩ t13.2 A13_1_defs c13_1_defs A13_1_conds c13_1_conds (cells_lent' 0 bd12 0 (cBoard t13.2 A13_1_defs c13_1_defs A13_1_conds c13_1_conds) ln) ((f13_1_defs.mono g39.br).mono lr) (arrm_of_buf h13_1_conds eb (lentk 1 (by kernel_rfl) ln)) hy41)) ?_
                  rintro _ g42 _ e43 ⟨_, rfl, A41_0, c41_0, k41_0, rfl, rfl, h41_0⟩
                  have nh41_0 := h41_0.len
                  refine xV (qStrB 0 h41_0) ?_
                  refine xB 1 [] [(0, Value.int .u16 conds), (1, vy i), (6, vp bd12 0), (97, vt y41), (98, vt y17)] ?_
                  refine xV (qNeS (y41) (y17)) ?_
                  refine xB 1 [] [(0, Value.int .u16 conds), (1, vy i), (6, vp bd12 0), (100, vb (!(y41 == y17)))] ?_
                  refine xGJo hS 14 (fun g own sl t44 => own = [some ⟨bd12, 71, (cBoard t13.2 A13_1_defs c13_1_defs A13_1_conds c13_1_conds)⟩, k13_1_conds] ∧ sl = [(0, Value.int .u16 conds), (1, vy i), (6, vp bd12 0), (108, vb t44)]) ?_ ?_
                  · rintro g45 _ _ t44 e46 ⟨rfl, rfl⟩ hS
                    refine xRe ?_
                    refine wpq_then ?_
                    refine xCd (t44) (fun h47 => ?_) (fun h47 => ?_)
                    · have hS := cond_T h47 hS
                      refine xSq ?_
                      refine xRg ?_
                      refine xB 1 [] [(4, vb false)] ?_
                      refine xRe ?_
                      refine wpq_then ?_
                      have eS := (Option.some.inj hS).symm
                      subst eS
                      exact xRet [] [4] (e3.trans (e7.trans (e10.trans (e15.trans (e19.trans (e22.trans (e25.trans (e28.trans (e31.trans (e34.trans (e37.trans (e40.trans (e43.trans e46))))))))))))) ⟨by kernel_rfl, by kernel_rfl⟩ (fun _ _ h => h)
                    · have hS := cond_F h47 hS
                      refine xSk ?_
                      refine wpq_then ?_
                      refine xSub [(0, Value.int .u16 conds), (1, vy i), (6, vp bd12 0)] ?_
                      refine xSq ?_
                      refine xSq ?_
                      refine xRg ?_
                      refine xB 1 [] [(0, Value.int .u16 conds), (1, vy i), (6, vp bd12 0), (109, vp bd12 0)] ?_
                      have f13_1_defs := f13_1_defs.mono (e43.trans e46).b
                      have h13_1_conds := h13_1_conds.mono (e43.trans e46).b
                      obtain ⟨y48, hy48, hS⟩ := bindO_T hS
                      refine xE (eC 0 (fun g' lr eb ln => c19 g' ⟨bd12, 0, none⟩ t13.2 A13_1_defs c13_1_defs A13_1_conds c13_1_conds (cells_lent' 0 bd12 0 (cBoard t13.2 A13_1_defs c13_1_defs A13_1_conds c13_1_conds) ln) ((f13_1_defs.mono g45.br).mono lr) (arrm_of_buf h13_1_conds eb (lentk 1 (by kernel_rfl) ln)) hy48)) ?_
                      rintro _ g49 _ e50 ⟨_, rfl, A48_0, c48_0, k48_0, rfl, rfl, h48_0⟩
                      have nh48_0 := h48_0.len
                      refine xB 2 [] [(0, Value.int .u16 conds), (1, vy i), (6, vp bd12 0), (110, vs A48_0 y48 c48_0), (111, vi (((y48).length : Nat) : Int)), (112, vi 0)] ?_
                      refine xRe ?_
                      refine wpq_then ?_
                      refine xJoinO hS (fun g own sl t51 => own = [] ∧ sl = [(0, Value.int .u16 conds), (1, vy i)]) ?_ ?_
                      · rintro g52 _ _ t51 e53 ⟨rfl, rfl⟩ hS
                        refine wpq_then ?_
                        refine xSq ?_
                        refine xRg ?_
                        refine xB 1 [] [(0, Value.int .u16 conds), (1, vy i), (18, vn)] ?_
                        refine xRe ?_
                        refine wpq_then ?_
                        refine xSq ?_
                        refine xRg ?_
                        refine xB 2 [] [(1, vy i), (18, vn), (129, vn), (130, Value.int .u16 conds)] ?_
                        obtain ⟨y54, hy54, hS⟩ := letJ_T hS
                        refine xE (eC 0 (fun g' lr eb ln => c17n g' (conds : Int) (4 : Int) hy54)) ?_
                        rintro _ g55 _ e56 ⟨_, rfl, rfl, rfl⟩
                        refine xB 2 [] [(1, vy i), (18, vn), (133, vb (y54 == 1))] ?_
                        refine xGJl hS 11 (fun g own sl t57 => own = [] ∧ sl = [(18, vn), (139, vb t57)]) ?_ ?_
                        · rintro g58 _ _ t57 e59 ⟨rfl, rfl⟩ hS
                          refine xB 1 [] [(18, vn), (140, vb t57)] ?_
                          refine xGJo hS 16 (fun g own sl t60 => own = [] ∧ sl = [(18, vn), (144, vb t60)]) ?_ ?_
                          · rintro g61 _ _ t60 e62 ⟨rfl, rfl⟩ hS
                            refine xB 1 [] [(18, vn), (145, vb t60)] ?_
                            refine xGJl hS 22 (fun g own sl t63 => own = [] ∧ sl = [(18, vn), (150, vb t63)]) ?_ ?_
                            · rintro g64 _ _ t63 e65 ⟨rfl, rfl⟩ hS
                              refine xB 1 [] [(18, vn), (151, vb t63)] ?_
                              refine xGJl hS 28 (fun g own sl t66 => own = [] ∧ sl = [(18, vn), (156, vb t66)]) ?_ ?_
                              · rintro g67 _ _ t66 e68 ⟨rfl, rfl⟩ hS
                                refine xB 1 [] [(18, vn), (157, vb t66)] ?_
                                refine xGJo hS 33 (fun g own sl t69 => own = [] ∧ sl = [(18, vn), (161, vb t69)]) ?_ ?_
                                · rintro g70 _ _ t69 e71 ⟨rfl, rfl⟩ hS
                                  refine xB 1 [] [(18, vn), (162, vb t69)] ?_
                                  refine xGJo hS 39 (fun g own sl t72 => own = [] ∧ sl = [(18, vn), (167, vb t72)]) ?_ ?_
                                  · rintro g73 _ _ t72 e74 ⟨rfl, rfl⟩ hS
                                    refine xB 1 [] [(18, vn), (168, vb t72)] ?_
                                    refine xGJl hS 45 (fun g own sl t75 => own = [] ∧ sl = [(173, vb t75)]) ?_ ?_
                                    · rintro g76 _ _ t75 e77 ⟨rfl, rfl⟩ hS
                                      refine xB 1 [] [(4, vb t75)] ?_
                                      refine xRe ?_
                                      refine wpq_then ?_
                                      have eS := (Option.some.inj hS).symm
                                      subst eS
                                      exact xRet [] [4] (e3.trans (e7.trans (e10.trans (e15.trans (e19.trans (e22.trans (e25.trans (e28.trans (e31.trans (e34.trans (e37.trans (e40.trans (e43.trans (e46.trans (e50.trans (e53.trans (e56.trans (e59.trans (e62.trans (e65.trans (e68.trans (e71.trans (e74.trans e77))))))))))))))))))))))) ⟨by kernel_rfl, by kernel_rfl⟩ (fun _ _ h => h)
                                    · intro uu75 hS hN75
                                      refine wpq_split 168 (b := t72) (by kernel_rfl) (fun q78 => ?_) (fun q78 => ?_)
                                      · have hS := cond_T q78 hS
                                        refine xB 1 [] [(168, vb true), (169, vn)] ?_
                                        obtain ⟨y79, hy79, hS⟩ := letJ_T hS
                                        refine xE (eC 0 (fun g' lr eb ln => c22n g'  hy79)) ?_
                                        rintro _ g80 _ e81 ⟨_, rfl, A79_0, c79_0, rfl, rfl, f79_0⟩
                                        have nf79_0 := f79_0.len
                                        refine xB 3 [] [(173, vb ((((y79).length : Nat) : Int) == 0))] ?_
                                        refine xSub [(173, vb ((((y79).length : Nat) : Int) == 0))] ?_
                                        exact hN75 _ hS.symm _ _ _ e81 ⟨by kernel_rfl, by kernel_rfl⟩
                                      · have hS := cond_F q78 hS
                                        refine xB 5 [] [(173, vb false)] ?_
                                        refine xSub [(173, vb false)] ?_
                                        exact hN75 _ hS.symm _ _ _ (Gh.le.refl _) ⟨by kernel_rfl, by kernel_rfl⟩
                                  · intro uu72 hS hN72
                                    refine wpq_split 162 (b := t69) (by kernel_rfl) (fun q82 => ?_) (fun q82 => ?_)
                                    · have hS := cond_T q82 hS
                                      refine xB 1 [] [(18, vn), (162, vb true), (163, vn)] ?_
                                      obtain ⟨y83, hy83, hS⟩ := bindO_T hS
                                      refine xE (eC 0 (fun g' lr eb ln => c20n g'  hy83)) ?_
                                      rintro _ g84 _ e85 ⟨_, rfl, A83_0, c83_0, k83_0, rfl, rfl, h83_0⟩
                                      have nh83_0 := h83_0.len
                                      refine xB 3 [] [(18, vn), (167, vb ((((y83).length : Nat) : Int) == 0))] ?_
                                      refine xSel [] ?_
                                      refine xSub [(18, vn), (167, vb ((((y83).length : Nat) : Int) == 0))] ?_
                                      exact hN72 _ (Option.some.inj hS).symm _ _ _ e85 ⟨by kernel_rfl, by kernel_rfl⟩
                                    · have hS := cond_F q82 hS
                                      refine xB 5 [] [(18, vn), (167, vb false)] ?_
                                      refine xSub [(18, vn), (167, vb false)] ?_
                                      exact hN72 _ (Option.some.inj hS).symm _ _ _ (Gh.le.refl _) ⟨by kernel_rfl, by kernel_rfl⟩
                                · intro uu69 hS hN69
                                  refine wpq_split 157 (b := t66) (by kernel_rfl) (fun q86 => ?_) (fun q86 => ?_)
                                  · have hS := cond_T q86 hS
                                    refine xB 1 [] [(18, vn), (157, vb true), (158, vn)] ?_
                                    obtain ⟨y87, hy87, hS⟩ := bindO_T hS
                                    refine xE (eC 0 (fun g' lr eb ln => c21n g'  hy87)) ?_
                                    rintro _ g88 _ e89 ⟨_, rfl, rfl, rfl⟩
                                    refine xB 2 [] [(18, vn), (161, vb (y87 == 0))] ?_
                                    refine xSub [(18, vn), (161, vb (y87 == 0))] ?_
                                    exact hN69 _ (Option.some.inj hS).symm _ _ _ e89 ⟨by kernel_rfl, by kernel_rfl⟩
                                  · have hS := cond_F q86 hS
                                    refine xB 4 [] [(18, vn), (161, vb false)] ?_
                                    refine xSub [(18, vn), (161, vb false)] ?_
                                    exact hN69 _ (Option.some.inj hS).symm _ _ _ (Gh.le.refl _) ⟨by kernel_rfl, by kernel_rfl⟩
                              · intro uu66 hS hN66
                                refine wpq_split 151 (b := t63) (by kernel_rfl) (fun q90 => ?_) (fun q90 => ?_)
                                · have hS := cond_T q90 hS
                                  refine xB 1 [] [(18, vn), (151, vb true), (152, vn)] ?_
                                  obtain ⟨y91, hy91, hS⟩ := letJ_T hS
                                  refine xE (eC 0 (fun g' lr eb ln => c23n g'  hy91)) ?_
                                  rintro _ g92 _ e93 ⟨_, rfl, A91_0, c91_0, rfl, rfl, f91_0⟩
                                  have nf91_0 := f91_0.len
                                  refine xB 3 [] [(18, vn), (156, vb ((((y91).length : Nat) : Int) == 0))] ?_
                                  refine xSub [(18, vn), (156, vb ((((y91).length : Nat) : Int) == 0))] ?_
                                  exact hN66 _ hS.symm _ _ _ e93 ⟨by kernel_rfl, by kernel_rfl⟩
                                · have hS := cond_F q90 hS
                                  refine xB 5 [] [(18, vn), (156, vb false)] ?_
                                  refine xSub [(18, vn), (156, vb false)] ?_
                                  exact hN66 _ hS.symm _ _ _ (Gh.le.refl _) ⟨by kernel_rfl, by kernel_rfl⟩
                            · intro uu63 hS hN63
                              refine wpq_split 145 (b := t60) (by kernel_rfl) (fun q94 => ?_) (fun q94 => ?_)
                              · have hS := cond_T q94 hS
                                refine xB 1 [] [(18, vn), (145, vb true), (146, vn)] ?_
                                obtain ⟨y95, hy95, hS⟩ := letJ_T hS
                                refine xE (eC 0 (fun g' lr eb ln => c19n g'  hy95)) ?_
                                rintro _ g96 _ e97 ⟨_, rfl, A95_0, c95_0, rfl, rfl, f95_0⟩
                                have nf95_0 := f95_0.len
                                refine xB 3 [] [(18, vn), (150, vb ((((y95).length : Nat) : Int) == 0))] ?_
                                refine xSub [(18, vn), (150, vb ((((y95).length : Nat) : Int) == 0))] ?_
                                exact hN63 _ hS.symm _ _ _ e97 ⟨by kernel_rfl, by kernel_rfl⟩
                              · have hS := cond_F q94 hS
                                refine xB 5 [] [(18, vn), (150, vb false)] ?_
                                refine xSub [(18, vn), (150, vb false)] ?_
                                exact hN63 _ hS.symm _ _ _ (Gh.le.refl _) ⟨by kernel_rfl, by kernel_rfl⟩
                          · intro uu60 hS hN60
                            refine wpq_split 140 (b := t57) (by kernel_rfl) (fun q98 => ?_) (fun q98 => ?_)
                            · have hS := cond_T q98 hS
                              refine xB 1 [] [(18, vn), (140, vb true), (141, vn)] ?_
                              obtain ⟨y99, hy99, hS⟩ := bindO_T hS
                              refine xE (eC 0 (fun g' lr eb ln => c24n g'  hy99)) ?_
                              rintro _ g100 _ e101 ⟨_, rfl, rfl, rfl⟩
                              refine xB 2 [] [(18, vn), (144, vb (y99 == 0))] ?_
                              refine xSub [(18, vn), (144, vb (y99 == 0))] ?_
                              exact hN60 _ (Option.some.inj hS).symm _ _ _ e101 ⟨by kernel_rfl, by kernel_rfl⟩
                            · have hS := cond_F q98 hS
                              refine xB 4 [] [(18, vn), (144, vb false)] ?_
                              refine xSub [(18, vn), (144, vb false)] ?_
                              exact hN60 _ (Option.some.inj hS).symm _ _ _ (Gh.le.refl _) ⟨by kernel_rfl, by kernel_rfl⟩
                        · intro uu57 hS hN57
                          refine wpq_split 133 (b := (y54 == 1)) (by kernel_rfl) (fun q102 => ?_) (fun q102 => ?_)
                          · have hS := cond_T q102 hS
                            have q102p : y54 = 1 := eq_of_beq q102
                            have z8 := i64_in_ i
                            refine xB 3 [] [(18, vn), (133, vb true), (134, vn), (136, vi (IntKind.i64.wrap i))] ?_
                            obtain ⟨y103, hy103, hS⟩ := letJ_T hS
                            refine xE (eC 0 (fun g' lr eb ln => c18n g' ((IntKind.i64.wrap i) : Int) hy103)) ?_
                            rintro _ g104 _ e105 ⟨_, rfl, rfl, rfl⟩
                            refine xB 2 [] [(18, vn), (139, vb (y103 == 1))] ?_
                            refine xSub [(18, vn), (139, vb (y103 == 1))] ?_
                            exact hN57 _ hS.symm _ _ _ e105 ⟨by kernel_rfl, by kernel_rfl⟩
                          · have hS := cond_F q102 hS
                            have q102p : ¬ (y54 = 1) := ne_of_beq_false_ q102
                            refine xB 6 [] [(18, vn), (139, vb false)] ?_
                            refine xSub [(18, vn), (139, vb false)] ?_
                            exact hN57 _ hS.symm _ _ _ (Gh.le.refl _) ⟨by kernel_rfl, by kernel_rfl⟩
                      · intro uu51 hS hN51 hD51
                        refine xBl 8 ?_
                        refine xSel [some 1, some 0, some 2] ?_
                        refine xSub [(0, Value.int .u16 conds), (1, vy i), (6, vp bd12 0), (110, vs A48_0 y48 c48_0), (111, vi (((y48).length : Nat) : Int)), (112, vi 0)] ?_
                        refine xLo hS (fun g own sl s108 => own = [some ⟨bd12, 71, (cBoard t13.2 A13_1_defs c13_1_defs A13_1_conds c13_1_conds)⟩, k48_0, k13_1_conds] ∧ sl = [(0, Value.int .u16 conds), (1, vy i), (6, vp bd12 0), (110, vs A48_0 y48 c48_0), (111, vi (((y48).length : Nat) : Int)), (112, vi ((s108 : Nat) : Int))]) ⟨by kernel_rfl, by kernel_rfl⟩ ?_
                        rintro g109 _ _ s108 uu108 e110 ⟨rfl, rfl⟩ hS Qr108 hN108 hD108
                        unfold o7_L0 at hS
                        refine xSq ?_
                        refine xRg ?_
                        refine xB 1 [] [(0, Value.int .u16 conds), (1, vy i), (6, vp bd12 0), (110, vs A48_0 y48 c48_0), (111, vi (((y48).length : Nat) : Int)), (112, vi ((s108 : Nat) : Int)), (113, vb (decide (((s108 : Nat) : Int) < (((y48).length : Nat) : Int))))] ?_
                        refine xRe ?_
                        refine wpq_then ?_
                        refine xSq ?_
                        refine xCd (decide (((s108 : Nat) : Int) < (((y48).length : Nat) : Int))) (fun h111 => ?_) (fun h111 => ?_)
                        · have hS := cond_T h111 hS
                          have h111p := of_decide_eq_true h111
                          refine xSk ?_
                          refine wpq_then ?_
                          refine xSub [(0, Value.int .u16 conds), (1, vy i), (6, vp bd12 0), (110, vs A48_0 y48 c48_0), (111, vi (((y48).length : Nat) : Int)), (112, vi ((s108 : Nat) : Int))] ?_
                          refine xSq ?_
                          refine xBl 9 ?_
                          refine xSq ?_
                          refine xRg ?_
                          have h48_0 := h48_0.mono e110.b
                          have i113 : s108 < (y48).length := by omega
                          obtain ⟨kc112, cs112, hA112, hk112, hr112, hw112⟩ := h48_0.open_ i113 0
                          obtain ⟨kb112, rfl⟩ : ∃ z, z = kc112 := ⟨_, rfl⟩
                          subst hk112
                          have hr112 : cs112 = [vi (List.getD y48 s108 0)] := hr112
                          subst hr112
                          refine xB 1 [] [(0, Value.int .u16 conds), (1, vy i), (6, vp bd12 0), (110, vs A48_0 y48 c48_0), (111, vi (((y48).length : Nat) : Int)), (112, vi ((s108 : Nat) : Int)), (114, vi ((s108 : Nat) : Int))] ?_
                          refine xV (qIxB s108 1 kb112.g hA112 rfl i113) ?_
                          refine xV (qLdB s108 1 0 1 hw112) ?_
                          refine xB 2 [] [(0, Value.int .u16 conds), (1, vy i), (6, vp bd12 0), (16, vi ((s108 : Nat) : Int)), (17, vi (List.getD y48 s108 0)), (110, vs A48_0 y48 c48_0), (111, vi (((y48).length : Nat) : Int)), (112, vi ((s108 : Nat) : Int))] ?_
                          refine xRe ?_
                          refine wpq_then ?_
                          refine xSq ?_
                          refine xDr 0 [] [0, 2, 3, 4, 6, 7, 8, 9, 10] [] 11 (fun RG => ?_) (fun _ _ _ _ _ h => h)
                          refine xT 8 [0, 2, 6] [] [] [(0, Value.int .u16 conds), (1, vy i), (6, vp bd12 0), (110, vs A48_0 y48 c48_0), (111, vi (((y48).length : Nat) : Int)), (112, vi ((s108 : Nat) : Int)), (117, vp bd12 0), (119, vi ((s108 : Nat) : Int)), (123, vi (List.getD y48 s108 0))] RG (Psi.le.refl _) ?_
                          have f13_1_defs := f13_1_defs.mono (e50.trans e110).b
                          have h13_1_conds := h13_1_conds.mono (e50.trans e110).b
                          obtain ⟨y114, hy114, hS⟩ := bindO_T hS
                          refine xO1 (lds := []) 1 ?_
                          refine xIe (lds := []) (Psi.le.refl _) (eC 0 (fun g' lr eb ln => c20 g' ⟨bd12, 0, none⟩ t13.2 A13_1_defs c13_1_defs A13_1_conds c13_1_conds (cells_lent' 0 bd12 0 (cBoard t13.2 A13_1_defs c13_1_defs A13_1_conds c13_1_conds) ln) ((f13_1_defs.mono g109.br).mono lr) (arrm_of_buf h13_1_conds eb (lentk 2 (by kernel_rfl) ln)) hy114)) ?_
                          rintro _ g115 _ e116 ⟨_, rfl, A114_0, c114_0, k114_0, rfl, rfl, h114_0⟩
                          refine kk [] ?_
                          have nh114_0 := h114_0.len
                          obtain ⟨q118, hS⟩ := grd_T hS
                          have q118p := of_decide_eq_true q118
                          obtain ⟨kc117, cs117, hA117, hk117, hr117, hw117⟩ := h114_0.open_ q118p []
                          obtain ⟨kb117, rfl⟩ : ∃ z, z = kc117 := ⟨_, rfl⟩
                          subst hk117
                          have hr117 : cs117 = [vt (List.getD y114 s108 [])] := hr117
                          subst hr117
                          refine xTp 3 RG (fun _ => (qIxB s108 1 kb117.g hA117 rfl q118p)) ?_
                          obtain ⟨y120, hy120, hS⟩ := bindO_T hS
                          obtain ⟨q124, hS⟩ := grd_T hS
                          have q124p := of_decide_eq_true q124
                          refine wpa_meet (fun g own sl => ∃ (kb123 : Bk), own = [(some kb123), (some kb117), some ⟨bd12, 71, (cBoard t13.2 A13_1_defs c13_1_defs A13_1_conds c13_1_conds)⟩, (some kb112), k13_1_conds] ∧ sl = [(0, Value.int .u16 conds), (1, vy i), (6, vp bd12 0), (110, vs A48_0 y48 c48_0), (111, vi (((y48).length : Nat) : Int)), (112, vi ((s108 : Nat) : Int)), (121, vt (List.getD y114 s108 [])), (126, vt ((List.getD y120 ((List.getD y48 s108 0)).toNat default).name))]) 1 [true, true, true, true, true, true, true, true, true, true, false] ?_ (fun hD119 => ?_)
                          · rintro g320 _ _ e321 ⟨kb123, rfl, rfl⟩
                            refine xTp 10 RG (fun _ => (qNeS ((List.getD y114 s108 [])) ((List.getD y120 ((List.getD y48 s108 0)).toNat default).name))) ?_
                            refine xAe (lds := []) ?_
                            refine wpq_then ?_
                            refine xSub [(0, Value.int .u16 conds), (1, vy i), (6, vp bd12 0), (110, vs A48_0 y48 c48_0), (111, vi (((y48).length : Nat) : Int)), (112, vi ((s108 : Nat) : Int)), (127, vb (!((List.getD y114 s108 []) == (List.getD y120 ((List.getD y48 s108 0)).toNat default).name)))] ?_
                            refine xCd ((!((List.getD y114 s108 []) == (List.getD y120 ((List.getD y48 s108 0)).toNat default).name))) (fun h322 => ?_) (fun h322 => ?_)
                            · have hS := cond_T h322 hS
                              have h322n := not_eq_true_ h322
                              have h322np : ¬ ((List.getD y114 s108 []) = (List.getD y120 ((List.getD y48 s108 0)).toNat default).name) := ne_of_beq_false_ h322n
                              refine xSq ?_
                              refine xRg ?_
                              refine xB 1 [] [(4, vb false)] ?_
                              refine xRe ?_
                              refine wpq_then ?_
                              have eS := (Option.some.inj hS).symm
                              have eS := (hD108 _ eS).symm
                              have eS := (hD51 _ eS).symm
                              subst eS
                              exact xRet [] [4] (e3.trans (e7.trans (e10.trans (e15.trans (e19.trans (e22.trans (e25.trans (e28.trans (e31.trans (e34.trans (e37.trans (e40.trans (e43.trans (e46.trans (e50.trans (e110.trans (e116.trans e321))))))))))))))))) ⟨by kernel_rfl, by kernel_rfl⟩ (fun _ _ h => h)
                            · have hS := cond_F h322 hS
                              have h322n := not_eq_false_ h322
                              have h322np : (List.getD y114 s108 []) = (List.getD y120 ((List.getD y48 s108 0)).toNat default).name := eq_of_beq h322n
                              refine xSk ?_
                              refine wpq_blockN ?_
                              refine wpq_then ?_
                              refine xSub [(0, Value.int .u16 conds), (1, vy i), (6, vp bd12 0), (110, vs A48_0 y48 c48_0), (111, vi (((y48).length : Nat) : Int)), (112, vi ((s108 : Nat) : Int))] ?_
                              refine xRg ?_
                              obtain ⟨q323, hS⟩ := grd_T hS
                              have q323p := of_decide_eq_true q323
                              refine xV (qAdd .i64 (((s108 : Nat) : Int)) (1) (wr64 (by omega))) ?_
                              refine xB 1 [] [(0, Value.int .u16 conds), (1, vy i), (6, vp bd12 0), (110, vs A48_0 y48 c48_0), (111, vi (((y48).length : Nat) : Int)), (112, vi (((s108 : Nat) : Int) + 1))] ?_
                              refine xRe ?_
                              refine wpq_thenN ?_
                              refine xSel [some 2, some 3, some 4] ?_
                              refine xSub [(0, Value.int .u16 conds), (1, vy i), (6, vp bd12 0), (110, vs A48_0 y48 c48_0), (111, vi (((y48).length : Nat) : Int)), (112, vi (((s108 : Nat) : Int) + 1))] ?_
                              have eS := (Option.some.inj hS).symm
                              exact hN108 _ eS _ _ _ (e116.trans e321) ⟨by kernel_rfl, by kernel_rfl⟩
                          · refine xO2 (lds := []) 4 5 ?_ ?_
                            · refine xIv (lds := []) (qLdB s108 1 0 0 hw117) ?_
                              refine xO1 (lds := []) 5 ?_
                              refine xIe (lds := []) e116.r (eC 0 (fun g' lr eb ln => c15 g'  hy120)) ?_
                              rintro _ g325 _ e326 ⟨_, rfl, A120_0, c120_0, k120_0, rfl, rfl, h120_0⟩
                              refine kk [] ?_
                              have nh120_0 := h120_0.len
                              have i329 : ((List.getD y48 s108 0)).toNat < (y120).length := by omega
                              obtain ⟨kc327, cs327, hA327, hk327, hr327, hw327⟩ := h120_0.open_ i329 default
                              obtain ⟨kb327, rfl⟩ : ∃ z, z = kc327 := ⟨_, rfl⟩
                              subst hk327
                              obtain ⟨rfl⟩ := hr327
                              refine xTp 7 RG (fun _ => (qIxB ((List.getD y48 s108 0)).toNat 3 kb327.g hA327 (show ((List.getD y48 s108 0) : Int) = _ from by omega) i329)) ?_
                              refine xT 2 [8] [] [] [(0, Value.int .u16 conds), (1, vy i), (6, vp bd12 0), (110, vs A48_0 y48 c48_0), (111, vi (((y48).length : Nat) : Int)), (112, vi ((s108 : Nat) : Int)), (121, vt (List.getD y114 s108 [])), (125, Value.pointer (some ⟨kb327.g, ((List.getD y48 s108 0)).toNat * 3 + 0, none⟩))] RG (e116.trans e326).r ?_
                              refine xO1 (lds := []) 9 ?_
                              refine xIv (lds := []) (qLdB ((List.getD y48 s108 0)).toNat 3 0 0 hw327) ?_
                              refine xSub [(0, Value.int .u16 conds), (1, vy i), (6, vp bd12 0), (110, vs A48_0 y48 c48_0), (111, vi (((y48).length : Nat) : Int)), (112, vi ((s108 : Nat) : Int)), (121, vt (List.getD y114 s108 [])), (126, vt ((List.getD y120 ((List.getD y48 s108 0)).toNat default).name))] ?_
                              exact hD119 _ _ _ e326 ⟨kb327, by kernel_rfl, by kernel_rfl⟩
                            · refine xIe (lds := []) e116.r (eC 0 (fun g' lr eb ln => c15 g'  hy120)) ?_
                              rintro _ g331 _ e332 ⟨_, rfl, A120_0, c120_0, k120_0, rfl, rfl, h120_0⟩
                              refine kk [] ?_
                              have nh120_0 := h120_0.len
                              have i335 : ((List.getD y48 s108 0)).toNat < (y120).length := by omega
                              obtain ⟨kc333, cs333, hA333, hk333, hr333, hw333⟩ := h120_0.open_ i335 default
                              obtain ⟨kb333, rfl⟩ : ∃ z, z = kc333 := ⟨_, rfl⟩
                              subst hk333
                              obtain ⟨rfl⟩ := hr333
                              refine xTp 7 RG (fun _ => (qIxB ((List.getD y48 s108 0)).toNat 3 kb333.g hA333 (show ((List.getD y48 s108 0) : Int) = _ from by omega) i335)) ?_
                              refine xT 3 [8] [] [] [(0, Value.int .u16 conds), (1, vy i), (6, vp bd12 0), (110, vs A48_0 y48 c48_0), (111, vi (((y48).length : Nat) : Int)), (112, vi ((s108 : Nat) : Int)), (120, Value.pointer (some ⟨kb117.g, s108 * 1 + 0, none⟩)), (125, Value.pointer (some ⟨kb333.g, ((List.getD y48 s108 0)).toNat * 3 + 0, none⟩))] RG (e116.trans e332).r ?_
                              refine xO2 (lds := []) 4 9 ?_ ?_
                              · refine xIv (lds := []) (qLdB s108 1 0 1 hw117) ?_
                                refine xO1 (lds := []) 9 ?_
                                refine xIv (lds := []) (qLdB ((List.getD y48 s108 0)).toNat 3 0 0 hw333) ?_
                                refine xSub [(0, Value.int .u16 conds), (1, vy i), (6, vp bd12 0), (110, vs A48_0 y48 c48_0), (111, vi (((y48).length : Nat) : Int)), (112, vi ((s108 : Nat) : Int)), (121, vt (List.getD y114 s108 [])), (126, vt ((List.getD y120 ((List.getD y48 s108 0)).toNat default).name))] ?_
                                exact hD119 _ _ _ e332 ⟨kb333, by kernel_rfl, by kernel_rfl⟩
                              · refine xIv (lds := []) (qLdB ((List.getD y48 s108 0)).toNat 3 0 0 hw333) ?_
                                refine xO1 (lds := []) 4 ?_
                                refine xIv (lds := []) (qLdB s108 1 0 1 hw117) ?_
                                refine xSub [(0, Value.int .u16 conds), (1, vy i), (6, vp bd12 0), (110, vs A48_0 y48 c48_0), (111, vi (((y48).length : Nat) : Int)), (112, vi ((s108 : Nat) : Int)), (121, vt (List.getD y114 s108 [])), (126, vt ((List.getD y120 ((List.getD y48 s108 0)).toNat default).name))] ?_
                                exact hD119 _ _ _ e332 ⟨kb333, by kernel_rfl, by kernel_rfl⟩
                        · have hS := cond_F h111 hS
                          have h111p := of_decide_eq_false h111
                          refine xEx 8 ?_
                          refine wpq_thenX ?_
                          refine wpq_thenX ?_
                          refine wpq_blockE ?_
                          refine xSel [] ?_
                          refine xSub [(0, Value.int .u16 conds), (1, vy i)] ?_
                          have eS := (Option.some.inj hS).symm
                          have eS := (hD108 _ eS).symm
                          exact hN51 _ eS _ _ _ e110 ⟨by kernel_rfl, by kernel_rfl⟩
                  · intro uu44 hS hN44
                    refine wpq_split 100 (b := (!(y41 == y17))) (by kernel_rfl) (fun q336 => ?_) (fun q336 => ?_)
                    · have hS := cond_T q336 hS
                      have q336n := not_eq_true_ q336
                      have q336np : ¬ (y41 = y17) := ne_of_beq_false_ q336n
                      refine xB 8 [] [(0, Value.int .u16 conds), (1, vy i), (6, vp bd12 0), (108, vb true)] ?_
                      refine xSel [some 1, some 2] ?_
                      refine xSub [(0, Value.int .u16 conds), (1, vy i), (6, vp bd12 0), (108, vb true)] ?_
                      exact hN44 _ (Option.some.inj hS).symm _ _ _ (Gh.le.refl _) ⟨by kernel_rfl, by kernel_rfl⟩
                    · have hS := cond_F q336 hS
                      have q336n := not_eq_false_ q336
                      have q336np : y41 = y17 := eq_of_beq q336n
                      refine xB 1 [] [(0, Value.int .u16 conds), (1, vy i), (6, vp bd12 0), (100, vb false), (101, vp bd12 0)] ?_
                      have f13_1_defs := f13_1_defs.mono e43.b
                      have h13_1_conds := h13_1_conds.mono e43.b
                      obtain ⟨y337, hy337, hS⟩ := bindO_T hS
                      refine xE (eC 0 (fun g' lr eb ln => c20 g' ⟨bd12, 0, none⟩ t13.2 A13_1_defs c13_1_defs A13_1_conds c13_1_conds (cells_lent' 1 bd12 0 (cBoard t13.2 A13_1_defs c13_1_defs A13_1_conds c13_1_conds) ln) ((f13_1_defs.mono g42.br).mono lr) (arrm_of_buf h13_1_conds eb (lentk 2 (by kernel_rfl) ln)) hy337)) ?_
                      rintro _ g338 _ e339 ⟨_, rfl, A337_0, c337_0, k337_0, rfl, rfl, h337_0⟩
                      have nh337_0 := h337_0.len
                      refine xB 2 [] [(0, Value.int .u16 conds), (1, vy i), (6, vp bd12 0), (100, vb false), (103, vi (((y337).length : Nat) : Int)), (104, vp bd12 0)] ?_
                      have f13_1_defs := f13_1_defs.mono e339.b
                      have h13_1_conds := h13_1_conds.mono e339.b
                      obtain ⟨y340, hy340, hS⟩ := bindO_T hS
                      refine xE (eC 0 (fun g' lr eb ln => c19 g' ⟨bd12, 0, none⟩ t13.2 A13_1_defs c13_1_defs A13_1_conds c13_1_conds (cells_lent' 2 bd12 0 (cBoard t13.2 A13_1_defs c13_1_defs A13_1_conds c13_1_conds) ln) ((f13_1_defs.mono g338.br).mono lr) (arrm_of_buf h13_1_conds eb (lentk 3 (by kernel_rfl) ln)) hy340)) ?_
                      rintro _ g341 _ e342 ⟨_, rfl, A340_0, c340_0, k340_0, rfl, rfl, h340_0⟩
                      have nh340_0 := h340_0.len
                      refine xB 3 [] [(0, Value.int .u16 conds), (1, vy i), (6, vp bd12 0), (108, vb ((((y337).length : Nat) : Int) != (((y340).length : Nat) : Int)))] ?_
                      refine xSel [some 3, some 4] ?_
                      refine xSub [(0, Value.int .u16 conds), (1, vy i), (6, vp bd12 0), (108, vb ((((y337).length : Nat) : Int) != (((y340).length : Nat) : Int)))] ?_
                      exact hN44 _ (Option.some.inj hS).symm _ _ _ (e339.trans e342) ⟨by kernel_rfl, by kernel_rfl⟩
                · intro uu38 hS hN38 hD38
                  refine xBl 6 ?_
                  refine xSel [some 1, some 0, some 2] ?_
                  refine xSub [(0, Value.int .u16 conds), (1, vy i), (6, vp bd12 0), (8, vt y17), (82, vs A35_0 y35 c35_0), (83, vi (((y35).length : Nat) : Int)), (84, vi 0)] ?_
                  refine xLo hS (fun g own sl s345 => own = [some ⟨bd12, 71, (cBoard t13.2 A13_1_defs c13_1_defs A13_1_conds c13_1_conds)⟩, k35_0, k13_1_conds] ∧ sl = [(0, Value.int .u16 conds), (1, vy i), (6, vp bd12 0), (8, vt y17), (82, vs A35_0 y35 c35_0), (83, vi (((y35).length : Nat) : Int)), (84, vi ((s345 : Nat) : Int))]) ⟨by kernel_rfl, by kernel_rfl⟩ ?_
                  rintro g346 _ _ s345 uu345 e347 ⟨rfl, rfl⟩ hS Qr345 hN345 hD345
                  unfold o7_L1 at hS
                  refine xSq ?_
                  refine xRg ?_
                  refine xB 1 [] [(0, Value.int .u16 conds), (1, vy i), (6, vp bd12 0), (8, vt y17), (82, vs A35_0 y35 c35_0), (83, vi (((y35).length : Nat) : Int)), (84, vi ((s345 : Nat) : Int)), (85, vb (decide (((s345 : Nat) : Int) < (((y35).length : Nat) : Int))))] ?_
                  refine xRe ?_
                  refine wpq_then ?_
                  refine xSq ?_
                  refine xCd (decide (((s345 : Nat) : Int) < (((y35).length : Nat) : Int))) (fun h348 => ?_) (fun h348 => ?_)
                  · have hS := cond_T h348 hS
                    have h348p := of_decide_eq_true h348
                    refine xSk ?_
                    refine wpq_then ?_
                    refine xSub [(0, Value.int .u16 conds), (1, vy i), (6, vp bd12 0), (8, vt y17), (82, vs A35_0 y35 c35_0), (83, vi (((y35).length : Nat) : Int)), (84, vi ((s345 : Nat) : Int))] ?_
                    refine xSq ?_
                    refine xBl 7 ?_
                    refine xSq ?_
                    refine xRg ?_
                    have h35_0 := h35_0.mono e347.b
                    have i350 : s345 < (y35).length := by omega
                    obtain ⟨kc349, cs349, hA349, hk349, hr349, hw349⟩ := h35_0.open_ i350 0
                    obtain ⟨kb349, rfl⟩ : ∃ z, z = kc349 := ⟨_, rfl⟩
                    subst hk349
                    have hr349 : cs349 = [vi (List.getD y35 s345 0)] := hr349
                    subst hr349
                    refine xV (qIxB s345 1 kb349.g hA349 rfl i350) ?_
                    refine xV (qLdB s345 1 0 1 hw349) ?_
                    refine xB 1 [] [(0, Value.int .u16 conds), (1, vy i), (6, vp bd12 0), (8, vt y17), (15, vi (List.getD y35 s345 0)), (82, vs A35_0 y35 c35_0), (83, vi (((y35).length : Nat) : Int)), (84, vi ((s345 : Nat) : Int))] ?_
                    refine xRe ?_
                    refine wpq_then ?_
                    refine xSq ?_
                    refine xRg ?_
                    refine xB 3 [] [(0, Value.int .u16 conds), (1, vy i), (6, vp bd12 0), (8, vt y17), (15, vi (List.getD y35 s345 0)), (82, vs A35_0 y35 c35_0), (83, vi (((y35).length : Nat) : Int)), (84, vi ((s345 : Nat) : Int)), (90, vb (decide ((List.getD y35 s345 0) < 0)))] ?_
                    refine wpr_grp 6 [(0, Value.int .u16 conds), (1, vy i), (6, vp bd12 0), (8, vt y17), (82, vs A35_0 y35 c35_0), (83, vi (((y35).length : Nat) : Int)), (84, vi ((s345 : Nat) : Int)), (93, vb (decide ((List.getD y35 s345 0) < 0) || decide ((List.getD y35 s345 0) > 15)))] (fun hk2 => ?_) ?_
                    · refine wpq_split 90 (b := decide ((List.getD y35 s345 0) < 0)) (by kernel_rfl) (fun q351 => ?_) (fun q351 => ?_)
                      · have q351p := of_decide_eq_true q351
                        refine xB 3 [] [(0, Value.int .u16 conds), (1, vy i), (6, vp bd12 0), (8, vt y17), (82, vs A35_0 y35 c35_0), (83, vi (((y35).length : Nat) : Int)), (84, vi ((s345 : Nat) : Int)), (93, vb true)] ?_
                        refine wpq_re 93 (v := vb true) (Value.bool ((decide ((List.getD y35 s345 0) < 0) || decide ((List.getD y35 s345 0) > 15)))) (by kernel_rfl) (re_or1 q351) ?_
                        exact wpq_sub _ (by kernel_rfl) hk2
                      · have q351p := of_decide_eq_false q351
                        refine xB 3 [] [(0, Value.int .u16 conds), (1, vy i), (6, vp bd12 0), (8, vt y17), (82, vs A35_0 y35 c35_0), (83, vi (((y35).length : Nat) : Int)), (84, vi ((s345 : Nat) : Int)), (93, vb (decide ((List.getD y35 s345 0) > 15)))] ?_
                        refine wpq_re 93 (v := vb (decide ((List.getD y35 s345 0) > 15))) (Value.bool ((decide ((List.getD y35 s345 0) < 0) || decide ((List.getD y35 s345 0) > 15)))) (by kernel_rfl) (re_or0 q351) ?_
                        exact wpq_sub _ (by kernel_rfl) hk2
                    · refine xRe ?_
                      refine wpq_then ?_
                      refine xCd ((decide ((List.getD y35 s345 0) < 0) || decide ((List.getD y35 s345 0) > 15))) (fun h352 => ?_) (fun h352 => ?_)
                      · have hS := cond_T h352 hS
                        refine xSq ?_
                        refine xRg ?_
                        refine xB 1 [] [(4, vb false)] ?_
                        refine xRe ?_
                        refine wpq_then ?_
                        have eS := (Option.some.inj hS).symm
                        have eS := (hD345 _ eS).symm
                        have eS := (hD38 _ eS).symm
                        subst eS
                        exact xRet [] [4] (e3.trans (e7.trans (e10.trans (e15.trans (e19.trans (e22.trans (e25.trans (e28.trans (e31.trans (e34.trans (e37.trans e347))))))))))) ⟨by kernel_rfl, by kernel_rfl⟩ (fun _ _ h => h)
                      · have hS := cond_F h352 hS
                        have h352l := (or_false_ h352).1
                        have h352r := (or_false_ h352).2
                        have h352lp := of_decide_eq_false h352l
                        have h352rp := of_decide_eq_false h352r
                        refine xSk ?_
                        refine wpq_blockN ?_
                        refine wpq_then ?_
                        refine xSub [(0, Value.int .u16 conds), (1, vy i), (6, vp bd12 0), (8, vt y17), (82, vs A35_0 y35 c35_0), (83, vi (((y35).length : Nat) : Int)), (84, vi ((s345 : Nat) : Int))] ?_
                        refine xRg ?_
                        obtain ⟨q353, hS⟩ := grd_T hS
                        have q353p := of_decide_eq_true q353
                        refine xV (qAdd .i64 (((s345 : Nat) : Int)) (1) (wr64 (by omega))) ?_
                        refine xB 1 [] [(0, Value.int .u16 conds), (1, vy i), (6, vp bd12 0), (8, vt y17), (82, vs A35_0 y35 c35_0), (83, vi (((y35).length : Nat) : Int)), (84, vi (((s345 : Nat) : Int) + 1))] ?_
                        refine xRe ?_
                        refine wpq_thenN ?_
                        refine xSub [(0, Value.int .u16 conds), (1, vy i), (6, vp bd12 0), (8, vt y17), (82, vs A35_0 y35 c35_0), (83, vi (((y35).length : Nat) : Int)), (84, vi (((s345 : Nat) : Int) + 1))] ?_
                        have eS := (Option.some.inj hS).symm
                        exact hN345 _ eS _ _ _ (Gh.le.refl _) ⟨by kernel_rfl, by kernel_rfl⟩
                  · have hS := cond_F h348 hS
                    have h348p := of_decide_eq_false h348
                    refine xEx 6 ?_
                    refine wpq_thenX ?_
                    refine wpq_thenX ?_
                    refine wpq_blockE ?_
                    refine xSel [some 0, some 2] ?_
                    refine xSub [(0, Value.int .u16 conds), (1, vy i), (6, vp bd12 0), (8, vt y17)] ?_
                    have eS := (Option.some.inj hS).symm
                    have eS := (hD345 _ eS).symm
                    exact hN38 _ eS _ _ _ e347 ⟨by kernel_rfl, by kernel_rfl⟩
              · intro uu32 hS hN32
                refine xBl 4 ?_
                refine xSel [some 1, some 0, some 2] ?_
                refine xSub [(0, Value.int .u16 conds), (1, vy i), (6, vp bd12 0), (8, vt y17), (12, vs A29_0 y29 c29_0), (70, vi (((y29).length : Nat) : Int)), (71, vi 0)] ?_
                refine xLo hS (fun g own sl s356 => ∃ (k356_0 : Option Bk), own = [some ⟨bd12, 71, (cBoard t13.2 A13_1_defs c13_1_defs A13_1_conds c13_1_conds)⟩, k356_0, k13_1_conds] ∧ sl = [(0, Value.int .u16 conds), (1, vy i), (6, vp bd12 0), (8, vt y17), (12, vs A29_0 s356.1 c29_0), (70, vi (((y29).length : Nat) : Int)), (71, vi ((s356.2 : Nat) : Int))] ∧ Buf g.b tyU8 5 (.slice A29_0 (s356.1).length c29_0) k356_0 s356.1) ⟨k29_0, by kernel_rfl, by kernel_rfl, h29_0⟩ ?_
                rintro g357 _ _ s356 uu356 e358 ⟨k356_0, rfl, rfl, h356_0⟩ hS Qr356 hN356 hD356
                have nh356_0 := h356_0.len
                unfold o7_L2 at hS
                refine xSq ?_
                refine xRg ?_
                refine xB 1 [] [(0, Value.int .u16 conds), (1, vy i), (6, vp bd12 0), (8, vt y17), (12, vs A29_0 s356.1 c29_0), (70, vi (((y29).length : Nat) : Int)), (71, vi ((s356.2 : Nat) : Int)), (72, vb (decide (((s356.2 : Nat) : Int) < (((y29).length : Nat) : Int))))] ?_
                refine xRe ?_
                refine wpq_then ?_
                refine xSq ?_
                refine xCd (decide (((s356.2 : Nat) : Int) < (((y29).length : Nat) : Int))) (fun h359 => ?_) (fun h359 => ?_)
                · have hS := cond_T h359 hS
                  have h359p := of_decide_eq_true h359
                  refine xSk ?_
                  refine wpq_then ?_
                  refine xSub [(0, Value.int .u16 conds), (1, vy i), (6, vp bd12 0), (8, vt y17), (12, vs A29_0 s356.1 c29_0), (70, vi (((y29).length : Nat) : Int)), (71, vi ((s356.2 : Nat) : Int))] ?_
                  refine xSq ?_
                  refine xBl 5 ?_
                  refine xSq ?_
                  refine xRg ?_
                  refine xB 2 [] [(0, Value.int .u16 conds), (1, vy i), (6, vp bd12 0), (8, vt y17), (12, vs A29_0 s356.1 c29_0), (13, vi ((s356.2 : Nat) : Int)), (70, vi (((y29).length : Nat) : Int)), (71, vi ((s356.2 : Nat) : Int))] ?_
                  refine xRe ?_
                  refine wpq_then ?_
                  refine xRg ?_
                  obtain ⟨q361, hS⟩ := grd_T hS
                  have q361p := of_decide_eq_true q361
                  obtain ⟨kc360, cs360, hA360, hk360, hr360, hw360⟩ := h356_0.open_ q361p 0
                  obtain ⟨kb360, rfl⟩ : ∃ z, z = kc360 := ⟨_, rfl⟩
                  subst hk360
                  have hr360 : cs360 = [vy ((List.getD s356.1 s356.2 0).toNat : Int)] := hr360
                  subst hr360
                  have nb360 := UInt8.toNat_lt (List.getD s356.1 s356.2 0)
                  refine xB 2 [] [(0, Value.int .u16 conds), (1, vy i), (6, vp bd12 0), (8, vt y17), (12, vs A29_0 s356.1 c29_0), (70, vi (((y29).length : Nat) : Int)), (71, vi ((s356.2 : Nat) : Int)), (74, vs A29_0 s356.1 c29_0), (75, vi ((s356.2 : Nat) : Int))] ?_
                  refine xV (qIxB s356.2 1 kb360.g hA360 rfl q361p) ?_
                  refine xV (qLdB s356.2 1 0 1 hw360) ?_
                  have z14 := u8_in_ (((List.getD s356.1 s356.2 0).toNat : Int) + 1)
                  obtain ⟨q363, hS⟩ := grd_T hS
                  have q363p := of_decide_eq_true q363
                  obtain ⟨kc362, cs362, hA362, hk362, hr362, hw362⟩ := h356_0.open_ q363p 0
                  cases hk362
                  have hr362 : cs362 = [vy ((List.getD s356.1 s356.2 0).toNat : Int)] := hr362
                  subst hr362
                  have nb362 := UInt8.toNat_lt (List.getD s356.1 s356.2 0)
                  refine xB 1 [] [(0, Value.int .u16 conds), (1, vy i), (6, vp bd12 0), (8, vt y17), (12, vs A29_0 s356.1 c29_0), (70, vi (((y29).length : Nat) : Int)), (71, vi ((s356.2 : Nat) : Int)), (74, vs A29_0 s356.1 c29_0), (75, vi ((s356.2 : Nat) : Int)), (78, vy (IntKind.u8.wrap (((List.getD s356.1 s356.2 0).toNat : Int) + 1)))] ?_
                  refine xV (qIxB s356.2 1 kb360.g hA362 rfl q363p) ?_
                  refine xD (eStB s356.2 1 0 1 [vy (IntKind.u8.wrap (((List.getD s356.1 s356.2 0).toNat : Int) + 1))] h356_0 rfl hw362 (u8_rep (wrapU8_rng _)) q363p) ?_
                  rintro _ _ _ - ⟨k364, rfl, rfl, h364⟩
                  have hz364 : (s356.1).length = ((List.set s356.1 s356.2 (u8 (IntKind.u8.wrap (((List.getD s356.1 s356.2 0).toNat : Int) + 1))))).length := by simp
                  refine xRe ?_
                  refine wpq_blockN ?_
                  refine wpq_then ?_
                  refine xSub [(0, Value.int .u16 conds), (1, vy i), (6, vp bd12 0), (8, vt y17), (12, Value.slice A29_0 ((s356.1).length) c29_0), (70, vi (((y29).length : Nat) : Int)), (71, vi ((s356.2 : Nat) : Int))] ?_
                  refine xRg ?_
                  obtain ⟨q365, hS⟩ := grd_T hS
                  have q365p := of_decide_eq_true q365
                  refine xV (qAdd .i64 (((s356.2 : Nat) : Int)) (1) (wr64 (by omega))) ?_
                  refine xB 1 [] [(0, Value.int .u16 conds), (1, vy i), (6, vp bd12 0), (8, vt y17), (12, Value.slice A29_0 ((s356.1).length) c29_0), (70, vi (((y29).length : Nat) : Int)), (71, vi (((s356.2 : Nat) : Int) + 1))] ?_
                  refine xRe ?_
                  refine wpq_thenN ?_
                  refine wpq_re 12 (v := Value.slice A29_0 ((s356.1).length) c29_0) (vs A29_0 (List.set s356.1 s356.2 (u8 (IntKind.u8.wrap (((List.getD s356.1 s356.2 0).toNat : Int) + 1)))) c29_0) (by kernel_rfl) (congrArg (fun z => Value.slice A29_0 z c29_0) hz364) ?_
                  have h364 := Buf.re h364 hz364 (rfl : (List.set s356.1 s356.2 (u8 (IntKind.u8.wrap (((List.getD s356.1 s356.2 0).toNat : Int) + 1)))) = _)
                  refine xSub [(0, Value.int .u16 conds), (1, vy i), (6, vp bd12 0), (8, vt y17), (12, vs A29_0 (List.set s356.1 s356.2 (u8 (IntKind.u8.wrap (((List.getD s356.1 s356.2 0).toNat : Int) + 1)))) c29_0), (70, vi (((y29).length : Nat) : Int)), (71, vi (((s356.2 : Nat) : Int) + 1))] ?_
                  have eS := (Option.some.inj hS).symm
                  exact hN356 _ eS _ _ _ (Gh.le.refl _) ⟨k364, by kernel_rfl, by kernel_rfl, h364⟩
                · have hS := cond_F h359 hS
                  have h359p := of_decide_eq_false h359
                  refine xEx 4 ?_
                  refine wpq_thenX ?_
                  refine wpq_thenX ?_
                  refine wpq_blockE ?_
                  refine xSel [some 0, some 2] ?_
                  refine xSub [(0, Value.int .u16 conds), (1, vy i), (6, vp bd12 0), (8, vt y17)] ?_
                  have eS := (Option.some.inj hS).symm
                  have eS := (hD356 _ eS).symm
                  exact hN32 _ eS _ _ _ e358 ⟨by kernel_rfl, by kernel_rfl⟩
            · intro uu26 hS hN26
              refine xBl 2 ?_
              have h20_0 := h20_0.mono e25.b
              refine xSub [(0, Value.int .u16 conds), (1, vy i), (6, vp bd12 0), (8, vt y17), (9, vs A20_0 y20 c20_0), (55, vi (((y20).length : Nat) : Int)), (56, vi 0)] ?_
              refine xLo hS (fun g own sl s368 => ∃ (k368_0 : Option Bk), own = [some ⟨bd12, 71, (cBoard t13.2 A13_1_defs c13_1_defs A13_1_conds c13_1_conds)⟩, k368_0, k13_1_conds] ∧ sl = [(0, Value.int .u16 conds), (1, vy i), (6, vp bd12 0), (8, vt y17), (9, vs A20_0 s368.1 c20_0), (55, vi (((y20).length : Nat) : Int)), (56, vi ((s368.2 : Nat) : Int))] ∧ Buf g.b (tyI .i64) 3 (.slice A20_0 (s368.1).length c20_0) k368_0 s368.1) ⟨k20_0, by kernel_rfl, by kernel_rfl, h20_0⟩ ?_
              rintro g369 _ _ s368 uu368 e370 ⟨k368_0, rfl, rfl, h368_0⟩ hS Qr368 hN368 hD368
              have nh368_0 := h368_0.len
              unfold o7_L3 at hS
              refine xSq ?_
              refine xRg ?_
              refine xB 1 [] [(0, Value.int .u16 conds), (1, vy i), (6, vp bd12 0), (8, vt y17), (9, vs A20_0 s368.1 c20_0), (55, vi (((y20).length : Nat) : Int)), (56, vi ((s368.2 : Nat) : Int)), (57, vb (decide (((s368.2 : Nat) : Int) < (((y20).length : Nat) : Int))))] ?_
              refine xRe ?_
              refine wpq_then ?_
              refine xSq ?_
              refine xCd (decide (((s368.2 : Nat) : Int) < (((y20).length : Nat) : Int))) (fun h371 => ?_) (fun h371 => ?_)
              · have hS := cond_T h371 hS
                have h371p := of_decide_eq_true h371
                refine xSk ?_
                refine wpq_then ?_
                refine xSub [(0, Value.int .u16 conds), (1, vy i), (6, vp bd12 0), (8, vt y17), (9, vs A20_0 s368.1 c20_0), (55, vi (((y20).length : Nat) : Int)), (56, vi ((s368.2 : Nat) : Int))] ?_
                refine xSq ?_
                refine xBl 3 ?_
                refine xSq ?_
                refine xRg ?_
                refine xB 2 [] [(0, Value.int .u16 conds), (1, vy i), (6, vp bd12 0), (8, vt y17), (9, vs A20_0 s368.1 c20_0), (11, vi ((s368.2 : Nat) : Int)), (55, vi (((y20).length : Nat) : Int)), (56, vi ((s368.2 : Nat) : Int))] ?_
                refine xRe ?_
                refine wpq_then ?_
                refine xSq ?_
                refine xRg ?_
                refine xB 1 [] [(0, Value.int .u16 conds), (1, vy i), (6, vp bd12 0), (8, vt y17), (9, vs A20_0 s368.1 c20_0), (11, vi ((s368.2 : Nat) : Int)), (55, vi (((y20).length : Nat) : Int)), (56, vi ((s368.2 : Nat) : Int)), (59, vp bd12 0)] ?_
                have f13_1_defs := f13_1_defs.mono (e22.trans (e25.trans e370)).b
                have h13_1_conds := h13_1_conds.mono (e22.trans (e25.trans e370)).b
                obtain ⟨y372, hy372, hS⟩ := bindO_T hS
                refine xE (eC 0 (fun g' lr eb ln => c20 g' ⟨bd12, 0, none⟩ t13.2 A13_1_defs c13_1_defs A13_1_conds c13_1_conds (cells_lent' 0 bd12 0 (cBoard t13.2 A13_1_defs c13_1_defs A13_1_conds c13_1_conds) ln) ((f13_1_defs.mono g369.br).mono lr) (arrm_of_buf h13_1_conds eb (lentk 2 (by kernel_rfl) ln)) hy372)) ?_
                rintro _ g373 _ e374 ⟨_, rfl, A372_0, c372_0, k372_0, rfl, rfl, h372_0⟩
                have nh372_0 := h372_0.len
                obtain ⟨q376, hS⟩ := grd_T hS
                have q376p := of_decide_eq_true q376
                obtain ⟨kc375, cs375, hA375, hk375, hr375, hw375⟩ := h372_0.open_ q376p []
                obtain ⟨kb375, rfl⟩ : ∃ z, z = kc375 := ⟨_, rfl⟩
                subst hk375
                have hr375 : cs375 = [vt (List.getD y372 s368.2 [])] := hr375
                subst hr375
                refine xB 1 [] [(0, Value.int .u16 conds), (1, vy i), (6, vp bd12 0), (8, vt y17), (9, vs A20_0 s368.1 c20_0), (11, vi ((s368.2 : Nat) : Int)), (55, vi (((y20).length : Nat) : Int)), (56, vi ((s368.2 : Nat) : Int)), (60, vs A372_0 y372 c372_0), (61, vi ((s368.2 : Nat) : Int))] ?_
                refine xV (qIxB s368.2 1 kb375.g hA375 rfl q376p) ?_
                refine xD (eStB s368.2 1 0 0 [vt ([67, 72, 65, 78, 71, 69, 68])] h372_0 rfl hw375 (show tyS.rep _ _ _ from rfl) q376p) ?_
                rintro _ _ _ - ⟨k377, rfl, rfl, h377⟩
                have hz377 : (y372).length = ((List.set y372 s368.2 ([67, 72, 65, 78, 71, 69, 68] : List UInt8))).length := by simp
                refine xRe ?_
                refine wpq_then ?_
                refine xSub [(0, Value.int .u16 conds), (1, vy i), (6, vp bd12 0), (8, vt y17), (9, vs A20_0 s368.1 c20_0), (11, vi ((s368.2 : Nat) : Int)), (55, vi (((y20).length : Nat) : Int)), (56, vi ((s368.2 : Nat) : Int))] ?_
                refine xRg ?_
                have h368_0 := h368_0.mono e374.b
                obtain ⟨q379, hS⟩ := grd_T hS
                have q379p := of_decide_eq_true q379
                obtain ⟨kc378, cs378, hA378, hk378, hr378, hw378⟩ := h368_0.open_ q379p 0
                obtain ⟨kb378, rfl⟩ : ∃ z, z = kc378 := ⟨_, rfl⟩
                subst hk378
                have hr378 : cs378 = [vi (List.getD s368.1 s368.2 0)] := hr378
                subst hr378
                refine xB 2 [] [(0, Value.int .u16 conds), (1, vy i), (6, vp bd12 0), (8, vt y17), (9, vs A20_0 s368.1 c20_0), (55, vi (((y20).length : Nat) : Int)), (56, vi ((s368.2 : Nat) : Int)), (63, vs A20_0 s368.1 c20_0), (64, vi ((s368.2 : Nat) : Int))] ?_
                refine xV (qIxB s368.2 1 kb378.g hA378 rfl q379p) ?_
                refine xD (eStB s368.2 1 0 2 [vi 99] h368_0 rfl hw378 (show (tyI .i64).rep _ _ _ from rfl) q379p) ?_
                rintro _ _ _ - ⟨k380, rfl, rfl, h380⟩
                have hz380 : (s368.1).length = ((List.set s368.1 s368.2 (99 : Int))).length := by simp
                refine xRe ?_
                refine wpq_blockN ?_
                refine wpq_then ?_
                refine xSub [(0, Value.int .u16 conds), (1, vy i), (6, vp bd12 0), (8, vt y17), (9, Value.slice A20_0 ((s368.1).length) c20_0), (55, vi (((y20).length : Nat) : Int)), (56, vi ((s368.2 : Nat) : Int))] ?_
                refine xRg ?_
                obtain ⟨q381, hS⟩ := grd_T hS
                have q381p := of_decide_eq_true q381
                refine xV (qAdd .i64 (((s368.2 : Nat) : Int)) (1) (wr64 (by omega))) ?_
                refine xB 1 [] [(0, Value.int .u16 conds), (1, vy i), (6, vp bd12 0), (8, vt y17), (9, Value.slice A20_0 ((s368.1).length) c20_0), (55, vi (((y20).length : Nat) : Int)), (56, vi (((s368.2 : Nat) : Int) + 1))] ?_
                refine xRe ?_
                refine wpq_thenN ?_
                refine wpq_re 9 (v := Value.slice A20_0 ((s368.1).length) c20_0) (vs A20_0 (List.set s368.1 s368.2 (99 : Int)) c20_0) (by kernel_rfl) (congrArg (fun z => Value.slice A20_0 z c20_0) hz380) ?_
                have h380 := Buf.re h380 hz380 (rfl : (List.set s368.1 s368.2 (99 : Int)) = _)
                refine xSel [some 1, some 2, some 3] ?_
                refine xSub [(0, Value.int .u16 conds), (1, vy i), (6, vp bd12 0), (8, vt y17), (9, vs A20_0 (List.set s368.1 s368.2 (99 : Int)) c20_0), (55, vi (((y20).length : Nat) : Int)), (56, vi (((s368.2 : Nat) : Int) + 1))] ?_
                have eS := (Option.some.inj hS).symm
                exact hN368 _ eS _ _ _ e374 ⟨k380, by kernel_rfl, by kernel_rfl, h380⟩
              · have hS := cond_F h371 hS
                have h371p := of_decide_eq_false h371
                refine xEx 2 ?_
                refine wpq_thenX ?_
                refine wpq_thenX ?_
                refine wpq_blockE ?_
                refine xSel [some 0, some 2] ?_
                refine xSub [(0, Value.int .u16 conds), (1, vy i), (6, vp bd12 0), (8, vt y17)] ?_
                have eS := (Option.some.inj hS).symm
                have eS := (hD368 _ eS).symm
                exact hN26 _ eS _ _ _ e370 ⟨by kernel_rfl, by kernel_rfl⟩
          · intro uu23 hS hN23
            refine xBl 0 ?_
            have h5_0 := h5_0.mono (e10.trans (e15.trans (e19.trans e22))).b
            refine xSel [some 2, some 3, some 0, some 4] ?_
            refine xSub [(0, Value.int .u16 conds), (1, vy i), (5, vs A5_0 y5 c5_0), (6, vp bd12 0), (8, vt y17), (9, vs A20_0 y20 c20_0), (45, vi (((y5).length : Nat) : Int)), (46, vi 0)] ?_
            refine xLo hS (fun g own sl s384 => ∃ (k384_0 : Option Bk), own = [some ⟨bd12, 71, (cBoard t13.2 A13_1_defs c13_1_defs A13_1_conds c13_1_conds)⟩, k384_0, k20_0, k13_1_conds] ∧ sl = [(0, Value.int .u16 conds), (1, vy i), (5, vs A5_0 s384.1 c5_0), (6, vp bd12 0), (8, vt y17), (9, vs A20_0 y20 c20_0), (45, vi (((y5).length : Nat) : Int)), (46, vi ((s384.2 : Nat) : Int))] ∧ Buf g.b tyAlertDef 34 (.slice A5_0 (s384.1).length c5_0) k384_0 s384.1) ⟨k5_0, by kernel_rfl, by kernel_rfl, h5_0⟩ ?_
            rintro g385 _ _ s384 uu384 e386 ⟨k384_0, rfl, rfl, h384_0⟩ hS Qr384 hN384 hD384
            have nh384_0 := h384_0.len
            unfold o7_L4 at hS
            refine xSq ?_
            refine xRg ?_
            refine xB 1 [] [(0, Value.int .u16 conds), (1, vy i), (5, vs A5_0 s384.1 c5_0), (6, vp bd12 0), (8, vt y17), (9, vs A20_0 y20 c20_0), (45, vi (((y5).length : Nat) : Int)), (46, vi ((s384.2 : Nat) : Int)), (47, vb (decide (((s384.2 : Nat) : Int) < (((y5).length : Nat) : Int))))] ?_
            refine xRe ?_
            refine wpq_then ?_
            refine xSq ?_
            refine xCd (decide (((s384.2 : Nat) : Int) < (((y5).length : Nat) : Int))) (fun h387 => ?_) (fun h387 => ?_)
            · have hS := cond_T h387 hS
              have h387p := of_decide_eq_true h387
              refine xSk ?_
              refine wpq_then ?_
              refine xSub [(0, Value.int .u16 conds), (1, vy i), (5, vs A5_0 s384.1 c5_0), (6, vp bd12 0), (8, vt y17), (9, vs A20_0 y20 c20_0), (45, vi (((y5).length : Nat) : Int)), (46, vi ((s384.2 : Nat) : Int))] ?_
              refine xSq ?_
              refine xBl 1 ?_
              refine xSq ?_
              refine xRg ?_
              refine xB 2 [] [(0, Value.int .u16 conds), (1, vy i), (5, vs A5_0 s384.1 c5_0), (6, vp bd12 0), (8, vt y17), (9, vs A20_0 y20 c20_0), (10, vi ((s384.2 : Nat) : Int)), (45, vi (((y5).length : Nat) : Int)), (46, vi ((s384.2 : Nat) : Int))] ?_
              refine xRe ?_
              refine wpq_then ?_
              refine xRg ?_
              obtain ⟨q389, hS⟩ := grd_T hS
              have q389p := of_decide_eq_true q389
              obtain ⟨kc388, cs388, hA388, hk388, hr388, hw388⟩ := h384_0.open_ q389p default
              obtain ⟨kb388, rfl⟩ : ∃ z, z = kc388 := ⟨_, rfl⟩
              subst hk388
              obtain ⟨rfl⟩ := hr388
              refine xB 3 [] [(0, Value.int .u16 conds), (1, vy i), (5, vs A5_0 s384.1 c5_0), (6, vp bd12 0), (8, vt y17), (9, vs A20_0 y20 c20_0), (45, vi (((y5).length : Nat) : Int)), (46, vi ((s384.2 : Nat) : Int)), (49, vs A5_0 s384.1 c5_0), (50, vi ((s384.2 : Nat) : Int)), (51, Value.agg #[vt ([]), vy 0, Value.int .u16 0])] ?_
              refine xV (qIxB s384.2 3 kb388.g hA388 rfl q389p) ?_
              refine xD (eStB s384.2 3 0 1 [vt ([]), vy 0, Value.int .u16 0] h384_0 rfl hw388 (show tyAlertDef.rep _ _ (⟨([] : List UInt8), 0, 0⟩ : AlertDef) from rfl) q389p) ?_
              rintro _ _ _ - ⟨k390, rfl, rfl, h390⟩
              have hz390 : (s384.1).length = ((List.set s384.1 s384.2 (⟨([] : List UInt8), 0, 0⟩ : AlertDef))).length := by simp
              refine xRe ?_
              refine wpq_blockN ?_
              refine wpq_then ?_
              refine xSub [(0, Value.int .u16 conds), (1, vy i), (5, Value.slice A5_0 ((s384.1).length) c5_0), (6, vp bd12 0), (8, vt y17), (9, vs A20_0 y20 c20_0), (45, vi (((y5).length : Nat) : Int)), (46, vi ((s384.2 : Nat) : Int))] ?_
              refine xRg ?_
              obtain ⟨q391, hS⟩ := grd_T hS
              have q391p := of_decide_eq_true q391
              refine xV (qAdd .i64 (((s384.2 : Nat) : Int)) (1) (wr64 (by omega))) ?_
              refine xB 1 [] [(0, Value.int .u16 conds), (1, vy i), (5, Value.slice A5_0 ((s384.1).length) c5_0), (6, vp bd12 0), (8, vt y17), (9, vs A20_0 y20 c20_0), (45, vi (((y5).length : Nat) : Int)), (46, vi (((s384.2 : Nat) : Int) + 1))] ?_
              refine xRe ?_
              refine wpq_thenN ?_
              refine wpq_re 5 (v := Value.slice A5_0 ((s384.1).length) c5_0) (vs A5_0 (List.set s384.1 s384.2 (⟨([] : List UInt8), 0, 0⟩ : AlertDef)) c5_0) (by kernel_rfl) (congrArg (fun z => Value.slice A5_0 z c5_0) hz390) ?_
              have h390 := Buf.re h390 hz390 (rfl : (List.set s384.1 s384.2 (⟨([] : List UInt8), 0, 0⟩ : AlertDef)) = _)
              refine xSub [(0, Value.int .u16 conds), (1, vy i), (5, vs A5_0 (List.set s384.1 s384.2 (⟨([] : List UInt8), 0, 0⟩ : AlertDef)) c5_0), (6, vp bd12 0), (8, vt y17), (9, vs A20_0 y20 c20_0), (45, vi (((y5).length : Nat) : Int)), (46, vi (((s384.2 : Nat) : Int) + 1))] ?_
              have eS := (Option.some.inj hS).symm
              exact hN384 _ eS _ _ _ (Gh.le.refl _) ⟨k390, by kernel_rfl, by kernel_rfl, h390⟩
            · have hS := cond_F h387 hS
              have h387p := of_decide_eq_false h387
              refine xEx 0 ?_
              refine wpq_thenX ?_
              refine wpq_thenX ?_
              refine wpq_blockE ?_
              refine xSel [some 0, some 2, some 3] ?_
              refine xSub [(0, Value.int .u16 conds), (1, vy i), (6, vp bd12 0), (8, vt y17), (9, vs A20_0 y20 c20_0)] ?_
              have eS := (Option.some.inj hS).symm
              have eS := (hD384 _ eS).symm
              exact hN23 _ eS _ _ _ e386 ⟨by kernel_rfl, by kernel_rfl⟩
      · intro uu13 hS hN13
        refine wpq_split 33 (b := ((y8.2 != 0) || (Option.isNone (y8.1)))) (by kernel_rfl) (fun q392 => ?_) (fun q392 => ?_)
        · have hS := cond_T q392 hS
          refine xB 5 [] [(0, Value.int .u16 conds), (1, vy i), (5, vs A5_0 y5 c5_0), (6, vp bd12 0), (38, vb true)] ?_
          refine xSel [some 0, some 2, some 1] ?_
          refine xSub [(0, Value.int .u16 conds), (1, vy i), (5, vs A5_0 y5 c5_0), (6, vp bd12 0), (38, vb true)] ?_
          exact hN13 _ (Option.some.inj hS).symm _ _ _ (Gh.le.refl _) ⟨Ad12_defs, cd12_defs, Ad12_conds, cd12_conds, k8_0_0, by kernel_rfl, by kernel_rfl, fd12_defs, hd12_conds⟩
        · have hS := cond_F q392 hS
          have q392l := (or_false_ q392).1
          have q392r := (or_false_ q392).2
          have q392lp : y8.2 = 0 := eq_of_bne_false_ q392l
          refine xB 2 [] [(0, Value.int .u16 conds), (1, vy i), (5, vs A5_0 y5 c5_0), (6, vp bd12 0), (33, vb false), (34, vp bd12 0), (35, Value.int .u16 conds)] ?_
          obtain ⟨y393, hy393, hS⟩ := bindO_T hS
          refine xE (eC 2 (fun g' lr eb ln => c17 g' bd12 d12 Ad12_defs cd12_defs Ad12_conds cd12_conds k8_0_0 (conds : Int) (4 : Int) (by rw [eb]; exact fd12_defs) (by rw [eb]; exact hd12_conds) hy393)) ?_
          rintro _ g394 _ e395 ⟨_, rfl, A393_b_defs, c393_b_defs, A393_b_conds, c393_b_conds, k393_b_conds, rfl, rfl, f393_b_defs, h393_b_conds⟩
          have nf393_b_defs := f393_b_defs.len
          have nh393_b_conds := h393_b_conds.len
          refine xB 2 [] [(0, Value.int .u16 conds), (1, vy i), (5, vs A5_0 y5 c5_0), (6, vp bd12 0), (38, vb (y393.2 != 0))] ?_
          refine xSel [some 0, some 2, some 1] ?_
          refine xSub [(0, Value.int .u16 conds), (1, vy i), (5, vs A5_0 y5 c5_0), (6, vp bd12 0), (38, vb (y393.2 != 0))] ?_
          exact hN13 _ (Option.some.inj hS).symm _ _ _ e395 ⟨A393_b_defs, c393_b_defs, A393_b_conds, c393_b_conds, k393_b_conds, by kernel_rfl, by kernel_rfl, f393_b_defs, h393_b_conds⟩

end Go.Proofs.Ytfhchendnfpbkaa
