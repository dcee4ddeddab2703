/-
Walks, printed by wip/gen. Conditions: each theorem's own.
-/
import Derived.Test.YtmcgofgpcnlljaaB2
namespace Go.Proofs.Ytmcgofgpcnlljaa
set_option linter.unusedVariables false
set_option linter.unusedSimpArgs false
open Go.RowKit
def o43_L0 (load : List Int) (m : Msg) (capacity : Int) (s7 : Int) : Option (Ctl (Int) (Ctl (Unit) (Bool))) :=
  (cond (decide (s7 < 32)) (grd (decide (0 ≤ s7 ∧ s7 < 32)) (cond (decide ((IntKind.i64.wrap ((List.getD load (s7).toNat 0) + m.length)) > capacity)) (some (Ctl.done (Ctl.done ((false))))) (grd (decide (-9223372036854775808 ≤ s7 + m.period ∧ s7 + m.period ≤ 9223372036854775807)) (some (Ctl.go (s7 + m.period)))))) (some (Ctl.done (Ctl.go ()))))
def o43 (load : List Int) (m : Msg) (o_ : Int) (capacity : Int) : Option (Bool) :=
  (joinO (τ := Unit) (ρ := Bool) (loopO (σ := Int) (ρ := Ctl (Unit) (Bool)) fuelN (o43_L0 load m capacity) (o_)) fun t2 => (some ((true))))
set_option maxRecDepth 100000 in
theorem c43 (g : Gh) (a_load : Addr) (load : List Int) (m : Msg) (o_ : Int) (capacity : Int) (fload : Arr g.r (tyI .i64) (some a_load) 32 load) (hl_load : 32 = (load).length) {r : Bool} (hS : o43 load m o_ capacity = some r) :
    Ctr Try.prog 43 [Value.pointer (some a_load), Value.agg #[vy m.label, vi m.period, vi m.length], vi o_, vi capacity] g [] (fun v ψ o => v = vb r ∧ o = []) := by
  unfold o43 at hS
  refine xFn Try.f43 (Try.f43.body.getD .skip) 27 ?_
  have nfload := fload.len
  refine xSq ?_
  refine xRg ?_
  refine xE eB ?_
  rintro _ _ _ - ⟨b1, rfl, rfl, rfl⟩
  refine xB 1 [] [(0, Value.pointer (some a_load)), (2, vi o_), (3, vi capacity), (5, vp b1 0)] ?_
  refine xRe ?_
  refine wpq_then ?_
  refine xSq ?_
  refine xSq ?_
  refine xRg ?_
  refine xB 2 [] [(0, Value.pointer (some a_load)), (3, vi capacity), (5, vp b1 0), (9, vi o_)] ?_
  refine xRe ?_
  refine wpq_then ?_
  refine xJoinO hS (fun g own sl t2 => own = [] ∧ sl = []) ?_ ?_
  · rintro g3 _ _ t2 e4 ⟨rfl, rfl⟩ hS
    refine wpq_then ?_
    refine xSq ?_
    refine xRg ?_
    refine xB 1 [] [(8, vb true)] ?_
    refine xRe ?_
    refine wpq_then ?_
    have eS := (Option.some.inj hS).symm
    subst eS
    exact xRet [] [8] e4 ⟨by kernel_rfl, by kernel_rfl⟩ (fun _ _ h => h)
  · intro uu2 hS hN2 hD2
    refine xBl 0 ?_
    refine xSub [(0, Value.pointer (some a_load)), (3, vi capacity), (5, vp b1 0), (9, vi o_)] ?_
    refine xLo hS (fun g own sl s7 => own = [some ⟨b1, 70, [vy m.label, vi m.period, vi m.length]⟩] ∧ sl = [(0, Value.pointer (some a_load)), (3, vi capacity), (5, vp b1 0), (9, vi s7)]) ⟨by kernel_rfl, by kernel_rfl⟩ ?_
    rintro g8 _ _ s7 uu7 e9 ⟨rfl, rfl⟩ hS Qr7 hN7 hD7
    unfold o43_L0 at hS
    refine xSq ?_
    refine xSq ?_
    refine xRg ?_
    refine xB 2 [] [(0, Value.pointer (some a_load)), (3, vi capacity), (5, vp b1 0), (9, vi s7), (12, vb (decide (s7 < 32)))] ?_
    refine xRe ?_
    refine wpq_then ?_
    refine xCd (decide (s7 < 32)) (fun h10 => ?_) (fun h10 => ?_)
    · have hS := cond_T h10 hS
      have h10p := of_decide_eq_true h10
      refine xSk ?_
      refine wpq_then ?_
      refine xSub [(0, Value.pointer (some a_load)), (3, vi capacity), (5, vp b1 0), (9, vi s7)] ?_
      refine xSq ?_
      refine xBl 1 ?_
      refine xSq ?_
      refine xDr 0 [4, 6] [7] [some ⟨b1, 70, [vy m.label, vi m.period, vi m.length]⟩] 10 (fun RG => ?_) (fun _ _ _ _ _ h => h)
      have fload := fload.mono e9.r
      obtain ⟨q12, hS⟩ := grd_T hS
      have q12p := of_decide_eq_true q12
      have i13 : (s7).toNat < 32 := by omega
      have i14 : (s7).toNat < (load).length := by omega
      obtain ⟨ad11, cs11, hA11, hr11, hc11⟩ := fload.at_ (get_getD (d := 0) i14)
      have hr11 : cs11 = [vi (List.getD load (s7).toNat 0)] := hr11
      subst hr11
      refine xT 7 [0, 1, 2] [] [some 0] [(0, Value.pointer (some a_load)), (3, vi capacity), (5, vp b1 0), (9, vi s7), (18, vi s7), (19, Value.pointer (some a_load))] RG (Psi.le.refl _) ?_
      refine xTp 3 RG (fun _ => (qIxP (s7).toNat 1 hA11 (show (s7 : Int) = _ from by omega) i13)) ?_
      refine xTv 4 [some 0] RG (Psi.le.refl _) (qLdP (Addr.add ad11 ((s7).toNat * 1)) 0 hc11) ?_
      have z12 := i64_in_ ((List.getD load (s7).toNat 0) + m.length)
      refine xT 0 [5, 6, 7, 8, 9] [(6, 0)] [some 0] [(0, Value.pointer (some a_load)), (3, vi capacity), (5, vp b1 0), (9, vi s7), (26, vb (decide ((IntKind.i64.wrap ((List.getD load (s7).toNat 0) + m.length)) > capacity)))] RG (Psi.le.refl _) ?_
      refine xAe (lds := [4, 6]) ?_
      refine wpq_then ?_
      refine xCd (decide ((IntKind.i64.wrap ((List.getD load (s7).toNat 0) + m.length)) > capacity)) (fun h15 => ?_) (fun h15 => ?_)
      · have hS := cond_T h15 hS
        have h15p := of_decide_eq_true h15
        refine xSq ?_
        refine xRg ?_
        refine xB 1 [] [(8, vb false)] ?_
        refine xRe ?_
        refine wpq_then ?_
        have eS := (Option.some.inj hS).symm
        have eS := (hD7 _ eS).symm
        have eS := (hD2 _ eS).symm
        subst eS
        exact xRet [] [8] e9 ⟨by kernel_rfl, by kernel_rfl⟩ (fun _ _ h => h)
      · have hS := cond_F h15 hS
        have h15p := of_decide_eq_false h15
        refine xSk ?_
        refine wpq_blockN ?_
        refine wpq_then ?_
        refine xSub [(0, Value.pointer (some a_load)), (3, vi capacity), (5, vp b1 0), (9, vi s7)] ?_
        refine xRg ?_
        obtain ⟨q16, hS⟩ := grd_T hS
        have q16p := of_decide_eq_true q16
        refine xB 3 [(2, 0)] [(0, Value.pointer (some a_load)), (3, vi capacity), (5, vp b1 0), (9, vi s7), (13, vi s7), (15, vi m.period)] ?_
        refine xV (qAdd .i64 (s7) (m.period) (wr64 (by omega))) ?_
        refine xB 1 [] [(0, Value.pointer (some a_load)), (3, vi capacity), (5, vp b1 0), (9, vi (s7 + m.period))] ?_
        refine xRe ?_
        refine wpq_thenN ?_
        refine xSub [(0, Value.pointer (some a_load)), (3, vi capacity), (5, vp b1 0), (9, vi (s7 + m.period))] ?_
        have eS := (Option.some.inj hS).symm
        exact hN7 _ eS _ _ _ (Gh.le.refl _) ⟨by kernel_rfl, by kernel_rfl⟩
    · have hS := cond_F h10 hS
      have h10p := of_decide_eq_false h10
      refine xEx 0 ?_
      refine wpq_thenX ?_
      refine wpq_thenX ?_
      refine wpq_blockE ?_
      refine xSel [] ?_
      refine xSub [] ?_
      have eS := (Option.some.inj hS).symm
      have eS := (hD7 _ eS).symm
      exact hN2 _ eS _ _ _ e9 ⟨by kernel_rfl, by kernel_rfl⟩

def o19_L1 (l : List Msg) (y12 : (List Int)) (s24 : (List Slot) × Nat × (List Int)) (s51 : Int × (List Int)) : Option (Ctl (Int × (List Int)) ((List Int))) :=
  (cond (decide (s51.1 < 32)) (grd (decide (0 ≤ s51.1 ∧ s51.1 < 32)) (grd (decide (-9223372036854775808 ≤ s51.1 + (List.getD l ((List.getD y12 s24.2.1 0)).toNat default).period ∧ s51.1 + (List.getD l ((List.getD y12 s24.2.1 0)).toNat default).period ≤ 9223372036854775807)) (some (Ctl.go ((s51.1 + (List.getD l ((List.getD y12 s24.2.1 0)).toNat default).period), ((List.set s51.2 (s51.1).toNat ((IntKind.i64.wrap ((List.getD s51.2 (s51.1).toNat 0) + (List.getD l ((List.getD y12 s24.2.1 0)).toNat default).length)) : Int)) : List Int)))))) (some (Ctl.done ((s51.2 : List Int)))))
def o19_L2 (l : List Msg) (capacity : Int) (y12 : (List Int)) (s24 : (List Slot) × Nat × (List Int)) (s66 : Nat) : Option (Ctl (Nat) (Nat)) :=
  (bindO (τ := Bool) (cond (decide (((s66 : Nat) : Int) < (List.getD l ((List.getD y12 s24.2.1 0)).toNat default).period)) (bindO (τ := Bool) (o43 (s24.2.2 : List Int) (List.getD l ((List.getD y12 s24.2.1 0)).toNat default) (((s66 : Nat) : Int) : Int) (capacity : Int)) fun y75 => (some (!y75))) (some (false))) fun t69 => (cond (t69) (grd (decide (((s66 : Nat) : Int) + 1 ≤ 9223372036854775807)) (some (Ctl.go (s66 + 1)))) (some (Ctl.done (s66)))))
def o19_L0 (l : List Msg) (capacity : Int) (y12 : (List Int)) (s24 : (List Slot) × Nat × (List Int)) : Option (Ctl ((List Slot) × Nat × (List Int)) (Ctl ((List Slot)) ((List Slot) × Int))) :=
  (cond (decide (((s24.2.1 : Nat) : Int) < (((y12).length : Nat) : Int))) (joinO (τ := (List Slot) × (List Int)) (ρ := Ctl ((List Slot) × Nat × (List Int)) (Ctl ((List Slot)) ((List Slot) × Int))) (grd (decide (0 ≤ (List.getD y12 s24.2.1 0) ∧ (List.getD y12 s24.2.1 0) < (((l).length : Nat) : Int))) (bindO (τ := Nat) (loopO (σ := Nat) (ρ := Nat) fuelN (o19_L2 l capacity y12 s24) (0)) fun t38 => (cond ((((t38 : Nat) : Int) == (List.getD l ((List.getD y12 s24.2.1 0)).toNat default).period)) (some (Ctl.done (Ctl.done (Ctl.done ((([] : List Slot), (18 : Int))))))) (bindO (τ := (List Int)) (loopO (σ := Int × (List Int)) (ρ := (List Int)) fuelN (o19_L1 l y12 s24) (((t38 : Nat) : Int), (s24.2.2 : List Int))) fun t42 => (grd (decide (0 ≤ (List.getD y12 s24.2.1 0) ∧ (List.getD y12 s24.2.1 0) < (((s24.1).length : Nat) : Int))) (some (Ctl.go (((List.set s24.1 ((List.getD y12 s24.2.1 0)).toNat ({ (List.getD l ((List.getD y12 s24.2.1 0)).toNat default) with offset := ((t38 : Nat) : Int) })) : List Slot), (t42 : List Int))))))))) fun t28 => (grd (decide (((s24.2.1 : Nat) : Int) + 1 ≤ 9223372036854775807)) (some (Ctl.go ((t28.1 : List Slot), (s24.2.1 + 1), (t28.2 : List Int)))))) (some (Ctl.done (Ctl.go (s24.1 : List Slot)))))
def o19_L3 (l : List Msg) (s80 : (List Int) × Nat) : Option (Ctl ((List Int) × Nat) ((List Int))) :=
  (cond (decide (((s80.2 : Nat) : Int) < ((((List.replicate (l).length (0 : Int))).length : Nat) : Int))) (grd (decide (s80.2 < (s80.1).length)) (grd (decide (((s80.2 : Nat) : Int) + 1 ≤ 9223372036854775807)) (some (Ctl.go (((List.set s80.1 s80.2 (((s80.2 : Nat) : Int) : Int)) : List Int), (s80.2 + 1)))))) (some (Ctl.done ((s80.1 : List Int)))))
def o19 (l : List Msg) (capacity : Int) : Option ((List Slot) × Int) :=
  (bindO (τ := Int) (o37 (l : List Msg)) fun y2 => (cond ((y2 != 0)) (some ((([] : List Slot), (y2 : Int)))) (cond (decide (capacity < 1)) (some ((([] : List Slot), (1 : Int)))) (grd (decide (0 ≤ (((l).length : Nat) : Int) ∧ (((l).length : Nat) : Int) * 8 ≤ 140737488355328)) (bindO (τ := (List Int)) (loopO (σ := (List Int) × Nat) (ρ := (List Int)) fuelN (o19_L3 l) (((List.replicate (l).length (0 : Int)) : List Int), 0)) fun t9 => (bindO (τ := (List Int)) (o38f39 (t9 : List Int) (l : List Msg)) fun y12 => (grd (decide (0 ≤ (((l).length : Nat) : Int) ∧ (((l).length : Nat) : Int) * 16 ≤ 140737488355328)) (joinO (τ := (List Slot)) (ρ := (List Slot) × Int) (loopO (σ := (List Slot) × Nat × (List Int)) (ρ := Ctl ((List Slot)) ((List Slot) × Int)) fuelN (o19_L0 l capacity y12) (((List.replicate (l).length (default : Slot)) : List Slot), 0, ((List.replicate 32 (0 : Int)) : List Int))) fun t19 => (some (((t19 : List Slot), (0 : Int))))))))))))
set_option maxRecDepth 100000 in
theorem c19 (g : Gh) (l : List Msg) (Al : Option Addr) (cl : Nat) (capacity : Int) (fl : ArrM g.r g.b tyMsg Al cl l) {r : (List Slot) × Int} (hS : o19 l capacity = some r) :
    Ctr Try.prog 19 [vs Al l cl, vi capacity] g [] (fun v ψ o => ∃ (Ar_0 : Option Addr) (cr_0 : Nat) (kr_0 : Option Bk), v = Value.tuple #[vs Ar_0 r.1 cr_0, vi r.2] ∧ o = [kr_0] ∧ Buf ψ tySlot 46 (.slice Ar_0 (r.1).length cr_0) kr_0 r.1) := by
  unfold o19 at hS
  refine xFn Try.f19 (Try.f19.body.getD .skip) 92 ?_
  have nfl := fl.len
  refine xSq ?_
  refine xRg ?_
  refine xE eB ?_
  rintro _ _ _ - ⟨b1, rfl, rfl, rfl⟩
  refine xB 2 [] [(1, vi capacity), (2, vp b1 0)] ?_
  refine xRe ?_
  refine wpq_then ?_
  refine xSq ?_
  refine xSq ?_
  refine xRg ?_
  refine xB 1 [(0, 0)] [(1, vi capacity), (2, vp b1 0), (16, vs Al l cl)] ?_
  obtain ⟨y2, hy2, hS⟩ := bindO_T hS
  refine xE (eC 0 (fun g' lr eb ln => c37 g' (l : List Msg) Al cl ((fl.toArr g.br).mono lr) hy2)) ?_
  rintro _ g3 _ e4 ⟨_, rfl, rfl, rfl⟩
  refine xB 1 [] [(1, vi capacity), (2, vp b1 0), (6, vi y2)] ?_
  refine xRe ?_
  refine wpq_then ?_
  refine xSq ?_
  refine xRg ?_
  refine xB 2 [] [(1, vi capacity), (2, vp b1 0), (6, vi y2), (19, vb (y2 != 0))] ?_
  refine xRe ?_
  refine wpq_then ?_
  refine xCd ((y2 != 0)) (fun h5 => ?_) (fun h5 => ?_)
  · have hS := cond_T h5 hS
    have h5p : ¬ (y2 = 0) := ne_of_bne_ h5
    refine xSq ?_
    refine xRg ?_
    refine xB 3 [] [(4, Value.slice none 0 0), (5, vi y2)] ?_
    refine xRe ?_
    refine wpq_then ?_
    have eS := (Option.some.inj hS).symm
    subst eS
    exact xRet [none] [4, 5] e4 ⟨none, 0, none, by kernel_rfl, by kernel_rfl, Buf.nil⟩ (fun _ _ h => h)
  · have hS := cond_F h5 hS
    have h5p : y2 = 0 := eq_of_bne_false_ h5
    refine xSk ?_
    refine wpq_then ?_
    refine xSub [(1, vi capacity), (2, vp b1 0)] ?_
    refine xSq ?_
    refine xSq ?_
    refine xRg ?_
    refine xB 2 [] [(1, vi capacity), (2, vp b1 0), (22, vb (decide (capacity < 1)))] ?_
    refine xRe ?_
    refine wpq_then ?_
    refine xCd (decide (capacity < 1)) (fun h6 => ?_) (fun h6 => ?_)
    · have hS := cond_T h6 hS
      have h6p := of_decide_eq_true h6
      refine xSq ?_
      refine xRg ?_
      refine xB 2 [] [(4, Value.slice none 0 0), (5, vi 1)] ?_
      refine xRe ?_
      refine wpq_then ?_
      have eS := (Option.some.inj hS).symm
      subst eS
      exact xRet [none] [4, 5] e4 ⟨none, 0, none, by kernel_rfl, by kernel_rfl, Buf.nil⟩ (fun _ _ h => h)
    · have hS := cond_F h6 hS
      have h6p := of_decide_eq_false h6
      refine xSk ?_
      refine wpq_then ?_
      refine xSub [(1, vi capacity), (2, vp b1 0)] ?_
      refine xSq ?_
      refine xRg ?_
      refine xB 2 [(0, 0)] [(1, vi capacity), (2, vp b1 0), (24, vi (((l).length : Nat) : Int))] ?_
      obtain ⟨q7, hS⟩ := grd_T hS
      have q7p := of_decide_eq_true q7
      refine xE (eMk (T := (tyI .i64)) (p := g3.b) (et := 3) (bytes := 8) (z := (0 : Int)) (l).length rfl (show (tyI .i64).rep _ _ _ from rfl) (by omega) (by omega)) ?_
      rintro _ _ _ - ⟨A8, c8, k8, rfl, rfl, rfl, h8⟩
      have nh8 := h8.len
      have hlh8 : ((List.replicate (l).length (0 : Int))).length = (l).length := List.length_replicate
      refine xB 1 [] [(1, vi capacity), (2, vp b1 0), (7, vs A8 (List.replicate (l).length (0 : Int)) c8)] ?_
      refine xRe ?_
      refine wpq_then ?_
      refine xSq ?_
      refine xSq ?_
      refine xRg ?_
      refine xB 3 [] [(1, vi capacity), (2, vp b1 0), (7, vs A8 (List.replicate (l).length (0 : Int)) c8), (27, vi ((((List.replicate (l).length (0 : Int))).length : Nat) : Int)), (28, vi 0)] ?_
      refine xRe ?_
      refine wpq_then ?_
      refine xBindO hS (fun g own sl t9 => ∃ (k9_0 : Option Bk), own = [some ⟨b1, 36, [vs Al l cl]⟩, k9_0] ∧ sl = [(1, vi capacity), (2, vp b1 0), (7, vs A8 t9 c8)] ∧ Buf g.b (tyI .i64) 3 (.slice A8 (t9).length c8) k9_0 t9) ?_ ?_
      · rintro g10 _ _ t9 e11 ⟨k9_0, rfl, rfl, h9_0⟩ hS
        have nh9_0 := h9_0.len
        refine wpq_then ?_
        refine xSq ?_
        refine xRg ?_
        refine xB 2 [] [(1, vi capacity), (2, vp b1 0), (7, vs A8 t9 c8), (36, vs A8 t9 c8), (37, Value.func (.func 39) #[] #[vp b1 0])] ?_
        refine xSel [some 1, none, some 0] ?_
        have fl := fl.mono (e4.trans e11).r (e4.trans e11).b
        obtain ⟨y12, hy12, hS⟩ := bindO_T hS
        refine xE (eC 2 (fun g' lr eb ln => c38f39 g' (t9 : List Int) A8 c8 k9_0 ⟨b1, 0, none⟩ (l : List Msg) Al cl (by rw [eb]; exact h9_0) (cells_lent' 0 b1 0 [vs Al l cl] ln) (ArrM.lent fl lr eb) hy12)) ?_
        rintro _ g13 _ e14 ⟨_, rfl, k12_x, rfl, rfl, h12_x⟩
        have nh12_x := h12_x.len
        have hz12_x : (t9).length = (y12).length := h12_x.leneq
        refine xRe ?_
        refine wpq_then ?_
        refine xSub [(1, vi capacity), (2, vp b1 0), (7, Value.slice A8 ((t9).length) c8)] ?_
        refine xSq ?_
        refine xRg ?_
        refine xE eB ?_
        rintro _ _ _ - ⟨b15, rfl, rfl, rfl⟩
        refine wpq_name (T := (tyI .i64)) (p := g13.b) (et := 81) (v := .slice (some ⟨b15, 0, none⟩) 32 32) (xs := (List.replicate 32 (0 : Int))) 0 (k := some ⟨b15, 81, (List.replicate 32 [vi 0]).flatten⟩) (by kernel_rfl) (buf_zeros (show (tyI .i64).rep _ _ _ from rfl) (by decide)) (fun k16 h16 => ?_)
        have hz16 : 32 = ((List.replicate 32 (0 : Int))).length := h16.leneq
        refine wpq_addnone ?_
        refine xRe ?_
        refine wpq_then ?_
        refine xSq ?_
        refine xRg ?_
        refine xB 2 [(0, 3)] [(1, vi capacity), (2, vp b1 0), (7, Value.slice A8 ((t9).length) c8), (9, vp b15 0), (40, vi (((l).length : Nat) : Int))] ?_
        obtain ⟨q17, hS⟩ := grd_T hS
        have q17p := of_decide_eq_true q17
        refine xE (eMk (T := tySlot) (p := g13.b) (et := 46) (bytes := 16) (z := (default : Slot)) (l).length rfl (show tySlot.rep _ _ _ from rfl) (by omega) (by omega)) ?_
        rintro _ _ _ - ⟨A18, c18, k18, rfl, rfl, rfl, h18⟩
        have nh18 := h18.len
        have hlh18 : ((List.replicate (l).length (default : Slot))).length = (l).length := List.length_replicate
        refine xB 1 [] [(1, vi capacity), (2, vp b1 0), (7, Value.slice A8 ((t9).length) c8), (9, vp b15 0), (10, vs A18 (List.replicate (l).length (default : Slot)) c18)] ?_
        refine xRe ?_
        refine wpq_then ?_
        refine xSq ?_
        refine xSq ?_
        refine xRg ?_
        refine xB 1 [] [(1, vi capacity), (2, vp b1 0), (9, vp b15 0), (10, vs A18 (List.replicate (l).length (default : Slot)) c18), (42, Value.slice A8 ((t9).length) c8)] ?_
        refine xV (qLen hz12_x) ?_
        refine xB 1 [] [(1, vi capacity), (2, vp b1 0), (9, vp b15 0), (10, vs A18 (List.replicate (l).length (default : Slot)) c18), (42, Value.slice A8 ((t9).length) c8), (43, vi (((y12).length : Nat) : Int)), (44, vi 0)] ?_
        refine xRe ?_
        refine wpq_then ?_
        refine xJoinO hS (fun g own sl t19 => ∃ (k19_0 : Option Bk), own = [k19_0] ∧ sl = [(10, vs A18 t19 c18)] ∧ Buf g.b tySlot 46 (.slice A18 (t19).length c18) k19_0 t19) ?_ ?_
        · rintro g20 _ _ t19 e21 ⟨k19_0, rfl, rfl, h19_0⟩ hS
          have nh19_0 := h19_0.len
          refine wpq_then ?_
          refine xSq ?_
          refine xRg ?_
          refine xB 3 [] [(4, vs A18 t19 c18), (5, vi 0)] ?_
          refine xRe ?_
          refine wpq_then ?_
          have eS := (Option.some.inj hS).symm
          subst eS
          exact xRet [some 0] [4, 5] (e4.trans (e11.trans (e14.trans e21))) ⟨A18, c18, k19_0, by kernel_rfl, by kernel_rfl, h19_0⟩ (fun _ _ h => h)
        · intro uu19 hS hN19 hD19
          refine xBl 2 ?_
          refine wpq_re 42 (v := Value.slice A8 ((t9).length) c8) (vs A8 y12 c8) (by kernel_rfl) (congrArg (fun z => Value.slice A8 z c8) hz12_x) ?_
          have h12_x := Buf.re h12_x hz12_x (rfl : y12 = _)
          refine xSel [none, some 4, some 0, some 3, some 2] ?_
          refine xSub [(1, vi capacity), (2, vp b1 0), (9, vp b15 0), (10, vs A18 (List.replicate (l).length (default : Slot)) c18), (42, vs A8 y12 c8), (43, vi (((y12).length : Nat) : Int)), (44, vi 0)] ?_
          refine xLo hS (fun g own sl s24 => ∃ (k24_0 : Option Bk) (k24_2 : Option Bk), own = [none, some ⟨b1, 36, [vs Al l cl]⟩, k24_0, k12_x, k24_2] ∧ sl = [(1, vi capacity), (2, vp b1 0), (9, vp b15 0), (10, vs A18 s24.1 c18), (42, vs A8 y12 c8), (43, vi (((y12).length : Nat) : Int)), (44, vi ((s24.2.1 : Nat) : Int))] ∧ Buf g.b tySlot 46 (.slice A18 (s24.1).length c18) k24_0 s24.1 ∧ Buf g.b (tyI .i64) 81 (.slice (some ⟨b15, 0, none⟩) (s24.2.2).length 32) k24_2 s24.2.2 ∧ 32 = (s24.2.2).length) ⟨k18, k16, by kernel_rfl, by kernel_rfl, h18, (Buf.re h16 hz16 rfl), hz16⟩ ?_
          rintro g25 _ _ s24 uu24 e26 ⟨k24_0, k24_2, rfl, rfl, h24_0, h24_2, hz24_v0⟩ hS Qr24 hN24 hD24
          have nh24_0 := h24_0.len
          have nh24_2 := h24_2.len
          unfold o19_L0 at hS
          refine xSq ?_
          refine xRg ?_
          refine xB 1 [] [(1, vi capacity), (2, vp b1 0), (9, vp b15 0), (10, vs A18 s24.1 c18), (42, vs A8 y12 c8), (43, vi (((y12).length : Nat) : Int)), (44, vi ((s24.2.1 : Nat) : Int)), (45, vb (decide (((s24.2.1 : Nat) : Int) < (((y12).length : Nat) : Int))))] ?_
          refine xRe ?_
          refine wpq_then ?_
          refine xSq ?_
          refine xCd (decide (((s24.2.1 : Nat) : Int) < (((y12).length : Nat) : Int))) (fun h27 => ?_) (fun h27 => ?_)
          · have hS := cond_T h27 hS
            have h27p := of_decide_eq_true h27
            refine xSk ?_
            refine wpq_then ?_
            refine xSub [(1, vi capacity), (2, vp b1 0), (9, vp b15 0), (10, vs A18 s24.1 c18), (42, vs A8 y12 c8), (43, vi (((y12).length : Nat) : Int)), (44, vi ((s24.2.1 : Nat) : Int))] ?_
            refine xSq ?_
            refine xJoinO hS (fun g own sl t28 => ∃ (k28_0 : Option Bk) (k28_1 : Option Bk), own = [none, some ⟨b1, 36, [vs Al l cl]⟩, k28_0, k12_x, k28_1] ∧ sl = [(1, vi capacity), (2, vp b1 0), (9, vp b15 0), (10, vs A18 t28.1 c18), (42, vs A8 y12 c8), (43, vi (((y12).length : Nat) : Int)), (44, vi ((s24.2.1 : Nat) : Int))] ∧ Buf g.b tySlot 46 (.slice A18 (t28.1).length c18) k28_0 t28.1 ∧ Buf g.b (tyI .i64) 81 (.slice (some ⟨b15, 0, none⟩) (t28.2).length 32) k28_1 t28.2 ∧ 32 = (t28.2).length) ?_ ?_
            · rintro g29 _ _ t28 e30 ⟨k28_0, k28_1, rfl, rfl, h28_0, h28_1, hz28_v0⟩ hS
              have nh28_0 := h28_0.len
              have nh28_1 := h28_1.len
              refine wpq_then ?_
              refine xRg ?_
              obtain ⟨q31, hS⟩ := grd_T hS
              have q31p := of_decide_eq_true q31
              refine xV (qAdd .i64 (((s24.2.1 : Nat) : Int)) (1) (wr64 (by omega))) ?_
              refine xB 1 [] [(1, vi capacity), (2, vp b1 0), (9, vp b15 0), (10, vs A18 t28.1 c18), (42, vs A8 y12 c8), (43, vi (((y12).length : Nat) : Int)), (44, vi (((s24.2.1 : Nat) : Int) + 1))] ?_
              refine xRe ?_
              refine wpq_thenN ?_
              refine xSel [none, some 1, some 2, some 3, some 4] ?_
              refine xSub [(1, vi capacity), (2, vp b1 0), (9, vp b15 0), (10, vs A18 t28.1 c18), (42, vs A8 y12 c8), (43, vi (((y12).length : Nat) : Int)), (44, vi (((s24.2.1 : Nat) : Int) + 1))] ?_
              have eS := (Option.some.inj hS).symm
              exact hN24 _ eS _ _ _ e30 ⟨k28_0, k28_1, by kernel_rfl, by kernel_rfl, h28_0, h28_1, hz28_v0⟩
            · intro uu28 hS hN28 hD28
              refine xBl 3 ?_
              refine xSq ?_
              refine xRg ?_
              have h12_x := h12_x.mono e26.b
              have i33 : s24.2.1 < (y12).length := by omega
              obtain ⟨kc32, cs32, hA32, hk32, hr32, hw32⟩ := h12_x.open_ i33 0
              obtain ⟨kb32, rfl⟩ : ∃ z, z = kc32 := ⟨_, rfl⟩
              subst hk32
              have hr32 : cs32 = [vi (List.getD y12 s24.2.1 0)] := hr32
              subst hr32
              refine xV (qIxB s24.2.1 1 kb32.g hA32 rfl i33) ?_
              refine xV (qLdB s24.2.1 1 0 3 hw32) ?_
              refine xB 1 [] [(1, vi capacity), (2, vp b1 0), (9, vp b15 0), (10, vs A18 s24.1 c18), (12, vi (List.getD y12 s24.2.1 0)), (42, vs A8 y12 c8), (43, vi (((y12).length : Nat) : Int)), (44, vi ((s24.2.1 : Nat) : Int))] ?_
              refine xRe ?_
              refine wpq_then ?_
              refine xSq ?_
              refine xRg ?_
              have fl := fl.mono (e14.trans e26).r (e14.trans e26).b
              obtain ⟨q35, hS⟩ := grd_T hS
              have q35p := of_decide_eq_true q35
              have i36 : ((List.getD y12 s24.2.1 0)).toNat < (l).length := by omega
              obtain ⟨ad34, cs34, hA34, hr34, hc34⟩ := fl.at_ (get_getD (d := default) i36)
              obtain ⟨rfl⟩ := hr34
              refine xB 2 [(0, 1)] [(1, vi capacity), (2, vp b1 0), (9, vp b15 0), (10, vs A18 s24.1 c18), (12, vi (List.getD y12 s24.2.1 0)), (42, vs A8 y12 c8), (43, vi (((y12).length : Nat) : Int)), (44, vi ((s24.2.1 : Nat) : Int)), (48, vs Al l cl), (49, vi (List.getD y12 s24.2.1 0))] ?_
              refine xV (qIx ((List.getD y12 s24.2.1 0)).toNat 3 hA34 (show ((List.getD y12 s24.2.1 0) : Int) = _ from by omega) i36) ?_
              refine xV (qLdP (Addr.add ad34 (((List.getD y12 s24.2.1 0)).toNat * 3)) 0 hc34) ?_
              refine xE eB ?_
              rintro _ _ _ - ⟨b37, rfl, rfl, rfl⟩
              refine xBo 1 [(5, 0)] [some ⟨b37, 70, [vy ((List.getD l ((List.getD y12 s24.2.1 0)).toNat default).label), vi ((List.getD l ((List.getD y12 s24.2.1 0)).toNat default).period), vi ((List.getD l ((List.getD y12 s24.2.1 0)).toNat default).length)]⟩, none, some ⟨b1, 36, [vs Al l cl]⟩, k24_0, (some kb32), k24_2] [(1, vi capacity), (2, vp b1 0), (9, vp b15 0), (10, vs A18 s24.1 c18), (12, vi (List.getD y12 s24.2.1 0)), (13, vp b37 0), (42, vs A8 y12 c8), (43, vi (((y12).length : Nat) : Int)), (44, vi ((s24.2.1 : Nat) : Int))] ?_
              refine xRe ?_
              refine wpq_then ?_
              refine xSq ?_
              refine xRg ?_
              refine xB 1 [] [(1, vi capacity), (2, vp b1 0), (9, vp b15 0), (10, vs A18 s24.1 c18), (12, vi (List.getD y12 s24.2.1 0)), (13, vp b37 0), (14, vi 0), (42, vs A8 y12 c8), (43, vi (((y12).length : Nat) : Int)), (44, vi ((s24.2.1 : Nat) : Int))] ?_
              refine xRe ?_
              refine wpq_then ?_
              refine xSq ?_
              refine xBindO hS (fun g own sl t38 => own = [some ⟨b37, 70, [vy ((List.getD l ((List.getD y12 s24.2.1 0)).toNat default).label), vi ((List.getD l ((List.getD y12 s24.2.1 0)).toNat default).period), vi ((List.getD l ((List.getD y12 s24.2.1 0)).toNat default).length)]⟩, none, some ⟨b1, 36, [vs Al l cl]⟩, k24_0, (some kb32), k24_2] ∧ sl = [(1, vi capacity), (2, vp b1 0), (9, vp b15 0), (10, vs A18 s24.1 c18), (12, vi (List.getD y12 s24.2.1 0)), (13, vp b37 0), (14, vi ((t38 : Nat) : Int)), (42, vs A8 y12 c8), (43, vi (((y12).length : Nat) : Int)), (44, vi ((s24.2.1 : Nat) : Int))]) ?_ ?_
              · rintro g39 _ _ t38 e40 ⟨rfl, rfl⟩ hS
                refine wpq_then ?_
                refine xSq ?_
                refine xSq ?_
                refine xRg ?_
                refine xB 4 [(2, 0)] [(1, vi capacity), (2, vp b1 0), (9, vp b15 0), (10, vs A18 s24.1 c18), (12, vi (List.getD y12 s24.2.1 0)), (13, vp b37 0), (14, vi ((t38 : Nat) : Int)), (42, vs A8 y12 c8), (43, vi (((y12).length : Nat) : Int)), (44, vi ((s24.2.1 : Nat) : Int)), (68, vb (((t38 : Nat) : Int) == (List.getD l ((List.getD y12 s24.2.1 0)).toNat default).period))] ?_
                refine xRe ?_
                refine wpq_then ?_
                refine xCd ((((t38 : Nat) : Int) == (List.getD l ((List.getD y12 s24.2.1 0)).toNat default).period)) (fun h41 => ?_) (fun h41 => ?_)
                · have hS := cond_T h41 hS
                  have h41p : ((t38 : Nat) : Int) = (List.getD l ((List.getD y12 s24.2.1 0)).toNat default).period := eq_of_beq h41
                  refine xSq ?_
                  refine xRg ?_
                  refine xB 2 [] [(4, Value.slice none 0 0), (5, vi 18)] ?_
                  refine xRe ?_
                  refine wpq_then ?_
                  have eS := (Option.some.inj hS).symm
                  have eS := (hD28 _ eS).symm
                  have eS := (hD24 _ eS).symm
                  have eS := (hD19 _ eS).symm
                  subst eS
                  exact xRet [none] [4, 5] (e4.trans (e11.trans (e14.trans (e26.trans e40)))) ⟨none, 0, none, by kernel_rfl, by kernel_rfl, Buf.nil⟩ (fun _ _ h => h)
                · have hS := cond_F h41 hS
                  have h41p : ¬ (((t38 : Nat) : Int) = (List.getD l ((List.getD y12 s24.2.1 0)).toNat default).period) := ne_of_beq_false_ h41
                  refine xSk ?_
                  refine wpq_then ?_
                  refine xSub [(1, vi capacity), (2, vp b1 0), (9, vp b15 0), (10, vs A18 s24.1 c18), (12, vi (List.getD y12 s24.2.1 0)), (13, vp b37 0), (14, vi ((t38 : Nat) : Int)), (42, vs A8 y12 c8), (43, vi (((y12).length : Nat) : Int)), (44, vi ((s24.2.1 : Nat) : Int))] ?_
                  refine xSq ?_
                  refine xSq ?_
                  refine xRg ?_
                  refine xB 2 [] [(1, vi capacity), (2, vp b1 0), (9, vp b15 0), (10, vs A18 s24.1 c18), (12, vi (List.getD y12 s24.2.1 0)), (13, vp b37 0), (14, vi ((t38 : Nat) : Int)), (15, vi ((t38 : Nat) : Int)), (42, vs A8 y12 c8), (43, vi (((y12).length : Nat) : Int)), (44, vi ((s24.2.1 : Nat) : Int))] ?_
                  refine xRe ?_
                  refine wpq_then ?_
                  refine xBindO hS (fun g own sl t42 => ∃ (k42_0 : Option Bk), own = [some ⟨b37, 70, [vy ((List.getD l ((List.getD y12 s24.2.1 0)).toNat default).label), vi ((List.getD l ((List.getD y12 s24.2.1 0)).toNat default).period), vi ((List.getD l ((List.getD y12 s24.2.1 0)).toNat default).length)]⟩, none, some ⟨b1, 36, [vs Al l cl]⟩, k24_0, (some kb32), k42_0] ∧ sl = [(1, vi capacity), (2, vp b1 0), (9, vp b15 0), (10, vs A18 s24.1 c18), (12, vi (List.getD y12 s24.2.1 0)), (13, vp b37 0), (14, vi ((t38 : Nat) : Int)), (42, vs A8 y12 c8), (43, vi (((y12).length : Nat) : Int)), (44, vi ((s24.2.1 : Nat) : Int))] ∧ Buf g.b (tyI .i64) 81 (.slice (some ⟨b15, 0, none⟩) (t42).length 32) k42_0 t42 ∧ 32 = (t42).length) ?_ ?_
                  · rintro g43 _ _ t42 e44 ⟨k42_0, rfl, rfl, h42_0, hz42_v0⟩ hS
                    have nh42_0 := h42_0.len
                    refine wpq_then ?_
                    refine xRg ?_
                    have h24_0 := h24_0.mono (e40.trans e44).b
                    obtain ⟨q46, hS⟩ := grd_T hS
                    have q46p := of_decide_eq_true q46
                    have i47 : ((List.getD y12 s24.2.1 0)).toNat < (s24.1).length := by omega
                    obtain ⟨kc45, cs45, hA45, hk45, hr45, hw45⟩ := h24_0.open_ i47 default
                    obtain ⟨kb45, rfl⟩ : ∃ z, z = kc45 := ⟨_, rfl⟩
                    subst hk45
                    obtain ⟨rfl⟩ := hr45
                    refine xB 6 [(3, 0)] [(1, vi capacity), (2, vp b1 0), (9, vp b15 0), (10, vs A18 s24.1 c18), (42, vs A8 y12 c8), (43, vi (((y12).length : Nat) : Int)), (44, vi ((s24.2.1 : Nat) : Int)), (83, vs A18 s24.1 c18), (84, vi (List.getD y12 s24.2.1 0)), (88, Value.agg #[vy ((List.getD l ((List.getD y12 s24.2.1 0)).toNat default).label), vi ((t38 : Nat) : Int)])] ?_
                    refine xV (qIxB ((List.getD y12 s24.2.1 0)).toNat 2 kb45.g hA45 (show ((List.getD y12 s24.2.1 0) : Int) = _ from by omega) i47) ?_
                    refine xD (eStB ((List.getD y12 s24.2.1 0)).toNat 2 0 3 [vy ((List.getD l ((List.getD y12 s24.2.1 0)).toNat default).label), vi ((t38 : Nat) : Int)] h24_0 rfl hw45 (show tySlot.rep _ _ ({ (List.getD l ((List.getD y12 s24.2.1 0)).toNat default) with offset := ((t38 : Nat) : Int) }) from rfl) i47) ?_
                    rintro _ _ _ - ⟨k48, rfl, rfl, h48⟩
                    have hz48 : (s24.1).length = ((List.set s24.1 ((List.getD y12 s24.2.1 0)).toNat ({ (List.getD l ((List.getD y12 s24.2.1 0)).toNat default) with offset := ((t38 : Nat) : Int) }))).length := by simp
                    refine xRe ?_
                    refine wpq_blockN ?_
                    refine wpq_re 10 (v := Value.slice A18 ((s24.1).length) c18) (vs A18 (List.set s24.1 ((List.getD y12 s24.2.1 0)).toNat ({ (List.getD l ((List.getD y12 s24.2.1 0)).toNat default) with offset := ((t38 : Nat) : Int) })) c18) (by kernel_rfl) (congrArg (fun z => Value.slice A18 z c18) hz48) ?_
                    have h48 := Buf.re h48 hz48 (rfl : (List.set s24.1 ((List.getD y12 s24.2.1 0)).toNat ({ (List.getD l ((List.getD y12 s24.2.1 0)).toNat default) with offset := ((t38 : Nat) : Int) })) = _)
                    refine wpq_re 83 (v := Value.slice A18 ((s24.1).length) c18) (vs A18 (List.set s24.1 ((List.getD y12 s24.2.1 0)).toNat ({ (List.getD l ((List.getD y12 s24.2.1 0)).toNat default) with offset := ((t38 : Nat) : Int) })) c18) (by kernel_rfl) (congrArg (fun z => Value.slice A18 z c18) hz48) ?_
                    refine xSel [none, some 2, some 3, some 4, some 5] ?_
                    refine xSub [(1, vi capacity), (2, vp b1 0), (9, vp b15 0), (10, vs A18 (List.set s24.1 ((List.getD y12 s24.2.1 0)).toNat ({ (List.getD l ((List.getD y12 s24.2.1 0)).toNat default) with offset := ((t38 : Nat) : Int) })) c18), (42, vs A8 y12 c8), (43, vi (((y12).length : Nat) : Int)), (44, vi ((s24.2.1 : Nat) : Int))] ?_
                    have eS := (Option.some.inj hS).symm
                    exact hN28 _ eS _ _ _ (e40.trans e44) ⟨k48, k42_0, by kernel_rfl, by kernel_rfl, h48, h42_0, hz42_v0⟩
                  · intro uu42 hS hN42
                    refine xBl 6 ?_
                    have h24_2 := h24_2.mono e40.b
                    refine xSel [some 0, none, some 2, some 3, some 4, some 5] ?_
                    refine xSub [(1, vi capacity), (2, vp b1 0), (9, vp b15 0), (10, vs A18 s24.1 c18), (12, vi (List.getD y12 s24.2.1 0)), (13, vp b37 0), (14, vi ((t38 : Nat) : Int)), (15, vi ((t38 : Nat) : Int)), (42, vs A8 y12 c8), (43, vi (((y12).length : Nat) : Int)), (44, vi ((s24.2.1 : Nat) : Int))] ?_
                    refine xLo hS (fun g own sl s51 => ∃ (k51_1 : Option Bk), own = [some ⟨b37, 70, [vy ((List.getD l ((List.getD y12 s24.2.1 0)).toNat default).label), vi ((List.getD l ((List.getD y12 s24.2.1 0)).toNat default).period), vi ((List.getD l ((List.getD y12 s24.2.1 0)).toNat default).length)]⟩, none, some ⟨b1, 36, [vs Al l cl]⟩, k24_0, (some kb32), k51_1] ∧ sl = [(1, vi capacity), (2, vp b1 0), (9, vp b15 0), (10, vs A18 s24.1 c18), (12, vi (List.getD y12 s24.2.1 0)), (13, vp b37 0), (14, vi ((t38 : Nat) : Int)), (15, vi s51.1), (42, vs A8 y12 c8), (43, vi (((y12).length : Nat) : Int)), (44, vi ((s24.2.1 : Nat) : Int))] ∧ Buf g.b (tyI .i64) 81 (.slice (some ⟨b15, 0, none⟩) (s51.2).length 32) k51_1 s51.2 ∧ 32 = (s51.2).length) ⟨k24_2, by kernel_rfl, by kernel_rfl, h24_2, hz24_v0⟩ ?_
                    rintro g52 _ _ s51 uu51 e53 ⟨k51_1, rfl, rfl, h51_1, hz51_v0⟩ hS Qr51 hN51 hD51
                    have nh51_1 := h51_1.len
                    unfold o19_L1 at hS
                    refine xSq ?_
                    refine xSq ?_
                    refine xRg ?_
                    refine xB 2 [] [(1, vi capacity), (2, vp b1 0), (9, vp b15 0), (10, vs A18 s24.1 c18), (12, vi (List.getD y12 s24.2.1 0)), (13, vp b37 0), (14, vi ((t38 : Nat) : Int)), (15, vi s51.1), (42, vs A8 y12 c8), (43, vi (((y12).length : Nat) : Int)), (44, vi ((s24.2.1 : Nat) : Int)), (71, vb (decide (s51.1 < 32)))] ?_
                    refine xRe ?_
                    refine wpq_then ?_
                    refine xCd (decide (s51.1 < 32)) (fun h54 => ?_) (fun h54 => ?_)
                    · have hS := cond_T h54 hS
                      have h54p := of_decide_eq_true h54
                      refine xSk ?_
                      refine wpq_then ?_
                      refine xSub [(1, vi capacity), (2, vp b1 0), (9, vp b15 0), (10, vs A18 s24.1 c18), (12, vi (List.getD y12 s24.2.1 0)), (13, vp b37 0), (14, vi ((t38 : Nat) : Int)), (15, vi s51.1), (42, vs A8 y12 c8), (43, vi (((y12).length : Nat) : Int)), (44, vi ((s24.2.1 : Nat) : Int))] ?_
                      refine xSq ?_
                      refine xBl 7 ?_
                      refine xDr 0 [2, 4] [7, 5, 6] [some ⟨b37, 70, [vy ((List.getD l ((List.getD y12 s24.2.1 0)).toNat default).label), vi ((List.getD l ((List.getD y12 s24.2.1 0)).toNat default).period), vi ((List.getD l ((List.getD y12 s24.2.1 0)).toNat default).length)]⟩, some ⟨b1, 36, [vs Al l cl]⟩, k51_1] 8 (fun RG => ?_) (fun _ _ _ _ _ h => h)
                      obtain ⟨q56, hS⟩ := grd_T hS
                      have q56p := of_decide_eq_true q56
                      have i57 : (s51.1).toNat < 32 := by omega
                      have i58 : (s51.1).toNat < (s51.2).length := by omega
                      obtain ⟨kc55, cs55, hA55, hk55, hr55, hw55⟩ := h51_1.open_ i58 0
                      obtain ⟨kb55, rfl⟩ : ∃ z, z = kc55 := ⟨_, rfl⟩
                      subst hk55
                      have hr55 : cs55 = [vi (List.getD s51.2 (s51.1).toNat 0)] := hr55
                      subst hr55
                      refine xT 7 [0] [] [some 0, some 2, some 5] [(1, vi capacity), (2, vp b1 0), (9, vp b15 0), (10, vs A18 s24.1 c18), (12, vi (List.getD y12 s24.2.1 0)), (13, vp b37 0), (14, vi ((t38 : Nat) : Int)), (15, vi s51.1), (42, vs A8 y12 c8), (43, vi (((y12).length : Nat) : Int)), (44, vi ((s24.2.1 : Nat) : Int)), (76, vi s51.1)] RG (Psi.le.refl _) ?_
                      refine xTp 1 RG (fun _ => (qIxRA (s51.1).toNat 1 kb55.g hA55 (show (s51.1 : Int) = _ from by omega) i57)) ?_
                      refine xTv 2 [some 0, some 2, some 5] RG (Psi.le.refl _) (qLdB (s51.1).toNat 1 0 2 hw55) ?_
                      have z144 := i64_in_ ((List.getD s51.2 (s51.1).toNat 0) + (List.getD l ((List.getD y12 s24.2.1 0)).toNat default).length)
                      have i60 : (s51.1).toNat < 32 := by omega
                      have i61 : (s51.1).toNat < (s51.2).length := by omega
                      obtain ⟨kc59, cs59, hA59, hk59, hr59, hw59⟩ := h51_1.open_ i61 0
                      cases hk59
                      have hr59 : cs59 = [vi (List.getD s51.2 (s51.1).toNat 0)] := hr59
                      subst hr59
                      refine xT 2 [3, 4, 5] [(4, 0)] [some 0, some 2, some 5] [(1, vi capacity), (2, vp b1 0), (9, vp b15 0), (10, vs A18 s24.1 c18), (12, vi (List.getD y12 s24.2.1 0)), (13, vp b37 0), (14, vi ((t38 : Nat) : Int)), (15, vi s51.1), (42, vs A8 y12 c8), (43, vi (((y12).length : Nat) : Int)), (44, vi ((s24.2.1 : Nat) : Int)), (76, vi s51.1), (81, vi (IntKind.i64.wrap ((List.getD s51.2 (s51.1).toNat 0) + (List.getD l ((List.getD y12 s24.2.1 0)).toNat default).length)))] RG (Psi.le.refl _) ?_
                      refine xTp 6 RG (fun _ => (qIxRA (s51.1).toNat 1 kb55.g hA59 (show (s51.1 : Int) = _ from by omega) i60)) ?_
                      refine xO1 (lds := [2, 4]) 7 ?_
                      refine xId (lds := [2, 4]) (Psi.le.refl _) (eStB (s51.1).toNat 1 0 5 [vi (IntKind.i64.wrap ((List.getD s51.2 (s51.1).toNat 0) + (List.getD l ((List.getD y12 s24.2.1 0)).toNat default).length))] h51_1 rfl hw59 (show (tyI .i64).rep _ _ _ from rfl) i61) ?_
                      rintro _ _ _ - ⟨k62, rfl, rfl, h62⟩
                      refine kf ?_
                      have hz62 : (s51.2).length = ((List.set s51.2 (s51.1).toNat ((IntKind.i64.wrap ((List.getD s51.2 (s51.1).toNat 0) + (List.getD l ((List.getD y12 s24.2.1 0)).toNat default).length)) : Int))).length := by simp
                      have hz62_1 : 32 = ((List.set s51.2 (s51.1).toNat ((IntKind.i64.wrap ((List.getD s51.2 (s51.1).toNat 0) + (List.getD l ((List.getD y12 s24.2.1 0)).toNat default).length)) : Int))).length := hz51_v0.trans hz62
                      refine xAe (lds := [2, 4]) ?_
                      refine wpq_blockN ?_
                      refine wpq_then ?_
                      refine xSub [(1, vi capacity), (2, vp b1 0), (9, vp b15 0), (10, vs A18 s24.1 c18), (12, vi (List.getD y12 s24.2.1 0)), (13, vp b37 0), (14, vi ((t38 : Nat) : Int)), (15, vi s51.1), (42, vs A8 y12 c8), (43, vi (((y12).length : Nat) : Int)), (44, vi ((s24.2.1 : Nat) : Int))] ?_
                      refine xRg ?_
                      obtain ⟨q63, hS⟩ := grd_T hS
                      have q63p := of_decide_eq_true q63
                      refine xB 3 [(2, 0)] [(1, vi capacity), (2, vp b1 0), (9, vp b15 0), (10, vs A18 s24.1 c18), (12, vi (List.getD y12 s24.2.1 0)), (13, vp b37 0), (14, vi ((t38 : Nat) : Int)), (15, vi s51.1), (42, vs A8 y12 c8), (43, vi (((y12).length : Nat) : Int)), (44, vi ((s24.2.1 : Nat) : Int)), (72, vi s51.1), (74, vi ((List.getD l ((List.getD y12 s24.2.1 0)).toNat default).period))] ?_
                      refine xV (qAdd .i64 (s51.1) ((List.getD l ((List.getD y12 s24.2.1 0)).toNat default).period) (wr64 (by omega))) ?_
                      refine xB 1 [] [(1, vi capacity), (2, vp b1 0), (9, vp b15 0), (10, vs A18 s24.1 c18), (12, vi (List.getD y12 s24.2.1 0)), (13, vp b37 0), (14, vi ((t38 : Nat) : Int)), (15, vi (s51.1 + (List.getD l ((List.getD y12 s24.2.1 0)).toNat default).period)), (42, vs A8 y12 c8), (43, vi (((y12).length : Nat) : Int)), (44, vi ((s24.2.1 : Nat) : Int))] ?_
                      refine xRe ?_
                      refine wpq_thenN ?_
                      refine xSel [some 0, none, some 2, some 3, some 4, some 5] ?_
                      refine xSub [(1, vi capacity), (2, vp b1 0), (9, vp b15 0), (10, vs A18 s24.1 c18), (12, vi (List.getD y12 s24.2.1 0)), (13, vp b37 0), (14, vi ((t38 : Nat) : Int)), (15, vi (s51.1 + (List.getD l ((List.getD y12 s24.2.1 0)).toNat default).period)), (42, vs A8 y12 c8), (43, vi (((y12).length : Nat) : Int)), (44, vi ((s24.2.1 : Nat) : Int))] ?_
                      have eS := (Option.some.inj hS).symm
                      exact hN51 _ eS _ _ _ (Gh.le.refl _) ⟨k62, by kernel_rfl, by kernel_rfl, (Buf.re h62 hz62 rfl), hz62_1⟩
                    · have hS := cond_F h54 hS
                      have h54p := of_decide_eq_false h54
                      refine xEx 6 ?_
                      refine wpq_thenX ?_
                      refine wpq_thenX ?_
                      refine wpq_blockE ?_
                      refine xSel [some 0, none, some 2, some 3, some 4, some 5] ?_
                      refine xSub [(1, vi capacity), (2, vp b1 0), (9, vp b15 0), (10, vs A18 s24.1 c18), (12, vi (List.getD y12 s24.2.1 0)), (13, vp b37 0), (14, vi ((t38 : Nat) : Int)), (42, vs A8 y12 c8), (43, vi (((y12).length : Nat) : Int)), (44, vi ((s24.2.1 : Nat) : Int))] ?_
                      have eS := (Option.some.inj hS).symm
                      have eS := (hD51 _ eS).symm
                      exact hN42 _ eS _ _ _ e53 ⟨k51_1, by kernel_rfl, by kernel_rfl, h51_1, hz51_v0⟩
              · intro uu38 hS hN38
                refine xBl 4 ?_
                refine xSel [some 0, none, some 2, some 3, some 4, some 5] ?_
                refine xSub [(1, vi capacity), (2, vp b1 0), (9, vp b15 0), (10, vs A18 s24.1 c18), (12, vi (List.getD y12 s24.2.1 0)), (13, vp b37 0), (14, vi 0), (42, vs A8 y12 c8), (43, vi (((y12).length : Nat) : Int)), (44, vi ((s24.2.1 : Nat) : Int))] ?_
                refine xLo hS (fun g own sl s66 => own = [some ⟨b37, 70, [vy ((List.getD l ((List.getD y12 s24.2.1 0)).toNat default).label), vi ((List.getD l ((List.getD y12 s24.2.1 0)).toNat default).period), vi ((List.getD l ((List.getD y12 s24.2.1 0)).toNat default).length)]⟩, none, some ⟨b1, 36, [vs Al l cl]⟩, k24_0, (some kb32), k24_2] ∧ sl = [(1, vi capacity), (2, vp b1 0), (9, vp b15 0), (10, vs A18 s24.1 c18), (12, vi (List.getD y12 s24.2.1 0)), (13, vp b37 0), (14, vi ((s66 : Nat) : Int)), (42, vs A8 y12 c8), (43, vi (((y12).length : Nat) : Int)), (44, vi ((s24.2.1 : Nat) : Int))]) ⟨by kernel_rfl, by kernel_rfl⟩ ?_
                rintro g67 _ _ s66 uu66 e68 ⟨rfl, rfl⟩ hS Qr66 hN66 hD66
                unfold o19_L2 at hS
                refine xSq ?_
                refine xSq ?_
                refine xRg ?_
                refine xB 5 [(2, 0)] [(1, vi capacity), (2, vp b1 0), (9, vp b15 0), (10, vs A18 s24.1 c18), (12, vi (List.getD y12 s24.2.1 0)), (13, vp b37 0), (14, vi ((s66 : Nat) : Int)), (42, vs A8 y12 c8), (43, vi (((y12).length : Nat) : Int)), (44, vi ((s24.2.1 : Nat) : Int)), (56, vb (decide (((s66 : Nat) : Int) < (List.getD l ((List.getD y12 s24.2.1 0)).toNat default).period)))] ?_
                refine xGJo hS 11 (fun g own sl t69 => own = [some ⟨b37, 70, [vy ((List.getD l ((List.getD y12 s24.2.1 0)).toNat default).label), vi ((List.getD l ((List.getD y12 s24.2.1 0)).toNat default).period), vi ((List.getD l ((List.getD y12 s24.2.1 0)).toNat default).length)]⟩, none, some ⟨b1, 36, [vs Al l cl]⟩, k24_0, (some kb32), k24_2] ∧ sl = [(1, vi capacity), (2, vp b1 0), (9, vp b15 0), (10, vs A18 s24.1 c18), (12, vi (List.getD y12 s24.2.1 0)), (13, vp b37 0), (14, vi ((s66 : Nat) : Int)), (42, vs A8 y12 c8), (43, vi (((y12).length : Nat) : Int)), (44, vi ((s24.2.1 : Nat) : Int)), (62, vb t69)]) ?_ ?_
                · rintro g70 _ _ t69 e71 ⟨rfl, rfl⟩ hS
                  refine xRe ?_
                  refine wpq_then ?_
                  refine xCd (t69) (fun h72 => ?_) (fun h72 => ?_)
                  · have hS := cond_T h72 hS
                    refine xSk ?_
                    refine wpq_then ?_
                    refine xSub [(1, vi capacity), (2, vp b1 0), (9, vp b15 0), (10, vs A18 s24.1 c18), (12, vi (List.getD y12 s24.2.1 0)), (13, vp b37 0), (14, vi ((s66 : Nat) : Int)), (42, vs A8 y12 c8), (43, vi (((y12).length : Nat) : Int)), (44, vi ((s24.2.1 : Nat) : Int))] ?_
                    refine xBl 5 ?_
                    refine xRg ?_
                    obtain ⟨q73, hS⟩ := grd_T hS
                    have q73p := of_decide_eq_true q73
                    refine xB 1 [] [(1, vi capacity), (2, vp b1 0), (9, vp b15 0), (10, vs A18 s24.1 c18), (12, vi (List.getD y12 s24.2.1 0)), (13, vp b37 0), (14, vi ((s66 : Nat) : Int)), (42, vs A8 y12 c8), (43, vi (((y12).length : Nat) : Int)), (44, vi ((s24.2.1 : Nat) : Int)), (63, vi ((s66 : Nat) : Int))] ?_
                    refine xV (qAdd .i64 (((s66 : Nat) : Int)) (1) (wr64 (by omega))) ?_
                    refine xB 1 [] [(1, vi capacity), (2, vp b1 0), (9, vp b15 0), (10, vs A18 s24.1 c18), (12, vi (List.getD y12 s24.2.1 0)), (13, vp b37 0), (14, vi (((s66 : Nat) : Int) + 1)), (42, vs A8 y12 c8), (43, vi (((y12).length : Nat) : Int)), (44, vi ((s24.2.1 : Nat) : Int))] ?_
                    refine xRe ?_
                    refine wpq_blockN ?_
                    refine wpq_thenN ?_
                    refine xSel [some 0, none, some 2, some 3, some 4, some 5] ?_
                    refine xSub [(1, vi capacity), (2, vp b1 0), (9, vp b15 0), (10, vs A18 s24.1 c18), (12, vi (List.getD y12 s24.2.1 0)), (13, vp b37 0), (14, vi (((s66 : Nat) : Int) + 1)), (42, vs A8 y12 c8), (43, vi (((y12).length : Nat) : Int)), (44, vi ((s24.2.1 : Nat) : Int))] ?_
                    have eS := (Option.some.inj hS).symm
                    exact hN66 _ eS _ _ _ e71 ⟨by kernel_rfl, by kernel_rfl⟩
                  · have hS := cond_F h72 hS
                    refine xEx 4 ?_
                    refine wpq_thenX ?_
                    refine wpq_thenX ?_
                    refine wpq_blockE ?_
                    refine xSel [some 0, none, some 2, some 3, some 4, some 5] ?_
                    refine xSub [(1, vi capacity), (2, vp b1 0), (9, vp b15 0), (10, vs A18 s24.1 c18), (12, vi (List.getD y12 s24.2.1 0)), (13, vp b37 0), (14, vi ((s66 : Nat) : Int)), (42, vs A8 y12 c8), (43, vi (((y12).length : Nat) : Int)), (44, vi ((s24.2.1 : Nat) : Int))] ?_
                    have eS := (Option.some.inj hS).symm
                    have eS := (hD66 _ eS).symm
                    exact hN38 _ eS _ _ _ (e68.trans e71) ⟨by kernel_rfl, by kernel_rfl⟩
                · intro uu69 hS hN69
                  refine wpq_split 56 (b := decide (((s66 : Nat) : Int) < (List.getD l ((List.getD y12 s24.2.1 0)).toNat default).period)) (by kernel_rfl) (fun q74 => ?_) (fun q74 => ?_)
                  · have hS := cond_T q74 hS
                    have q74p := of_decide_eq_true q74
                    refine xB 3 [(5, 0)] [(1, vi capacity), (2, vp b1 0), (9, vp b15 0), (10, vs A18 s24.1 c18), (12, vi (List.getD y12 s24.2.1 0)), (13, vp b37 0), (14, vi ((s66 : Nat) : Int)), (42, vs A8 y12 c8), (43, vi (((y12).length : Nat) : Int)), (44, vi ((s24.2.1 : Nat) : Int)), (56, vb true), (57, Value.agg #[vy ((List.getD l ((List.getD y12 s24.2.1 0)).toNat default).label), vi ((List.getD l ((List.getD y12 s24.2.1 0)).toNat default).period), vi ((List.getD l ((List.getD y12 s24.2.1 0)).toNat default).length)]), (58, vi ((s66 : Nat) : Int)), (59, vi capacity)] ?_
                    have h24_2 := h24_2.mono e68.b
                    obtain ⟨y75, hy75, hS⟩ := bindO_T hS
                    refine xE (eC 0 (fun g' lr eb ln => c43 g' ⟨b15, 0, none⟩ (s24.2.2 : List Int) (List.getD l ((List.getD y12 s24.2.1 0)).toNat default) (((s66 : Nat) : Int) : Int) (capacity : Int) (arr_of_buf h24_2 (Psi.le_b eb) (lentk 5 (by kernel_rfl) ln)) hz24_v0 hy75)) ?_
                    rintro _ g76 _ e77 ⟨_, rfl, rfl, rfl⟩
                    refine xB 2 [] [(1, vi capacity), (2, vp b1 0), (9, vp b15 0), (10, vs A18 s24.1 c18), (12, vi (List.getD y12 s24.2.1 0)), (13, vp b37 0), (14, vi ((s66 : Nat) : Int)), (42, vs A8 y12 c8), (43, vi (((y12).length : Nat) : Int)), (44, vi ((s24.2.1 : Nat) : Int)), (62, vb (!y75))] ?_
                    refine xSel [some 0, none, some 2, some 3, some 4, some 5] ?_
                    refine xSub [(1, vi capacity), (2, vp b1 0), (9, vp b15 0), (10, vs A18 s24.1 c18), (12, vi (List.getD y12 s24.2.1 0)), (13, vp b37 0), (14, vi ((s66 : Nat) : Int)), (42, vs A8 y12 c8), (43, vi (((y12).length : Nat) : Int)), (44, vi ((s24.2.1 : Nat) : Int)), (62, vb (!y75))] ?_
                    exact hN69 _ (Option.some.inj hS).symm _ _ _ e77 ⟨by kernel_rfl, by kernel_rfl⟩
                  · have hS := cond_F q74 hS
                    have q74p := of_decide_eq_false q74
                    refine xB 6 [] [(1, vi capacity), (2, vp b1 0), (9, vp b15 0), (10, vs A18 s24.1 c18), (12, vi (List.getD y12 s24.2.1 0)), (13, vp b37 0), (14, vi ((s66 : Nat) : Int)), (42, vs A8 y12 c8), (43, vi (((y12).length : Nat) : Int)), (44, vi ((s24.2.1 : Nat) : Int)), (62, vb false)] ?_
                    refine xSel [some 0, none, some 2, some 3, some 4, some 5] ?_
                    refine xSub [(1, vi capacity), (2, vp b1 0), (9, vp b15 0), (10, vs A18 s24.1 c18), (12, vi (List.getD y12 s24.2.1 0)), (13, vp b37 0), (14, vi ((s66 : Nat) : Int)), (42, vs A8 y12 c8), (43, vi (((y12).length : Nat) : Int)), (44, vi ((s24.2.1 : Nat) : Int)), (62, vb false)] ?_
                    exact hN69 _ (Option.some.inj hS).symm _ _ _ (Gh.le.refl _) ⟨by kernel_rfl, by kernel_rfl⟩
          · have hS := cond_F h27 hS
            have h27p := of_decide_eq_false h27
            refine xEx 2 ?_
            refine wpq_thenX ?_
            refine wpq_thenX ?_
            refine wpq_blockE ?_
            refine xSel [some 2] ?_
            refine xSub [(10, vs A18 s24.1 c18)] ?_
            have eS := (Option.some.inj hS).symm
            have eS := (hD24 _ eS).symm
            exact hN19 _ eS _ _ _ e26 ⟨k24_0, by kernel_rfl, by kernel_rfl, h24_0⟩
      · intro uu9 hS hN9
        refine xBl 0 ?_
        refine xSel [some 1, some 0] ?_
        refine xSub [(1, vi capacity), (2, vp b1 0), (7, vs A8 (List.replicate (l).length (0 : Int)) c8), (27, vi ((((List.replicate (l).length (0 : Int))).length : Nat) : Int)), (28, vi 0)] ?_
        refine xLo hS (fun g own sl s80 => ∃ (k80_0 : Option Bk), own = [some ⟨b1, 36, [vs Al l cl]⟩, k80_0] ∧ sl = [(1, vi capacity), (2, vp b1 0), (7, vs A8 s80.1 c8), (27, vi ((((List.replicate (l).length (0 : Int))).length : Nat) : Int)), (28, vi ((s80.2 : Nat) : Int))] ∧ Buf g.b (tyI .i64) 3 (.slice A8 (s80.1).length c8) k80_0 s80.1) ⟨k8, by kernel_rfl, by kernel_rfl, h8⟩ ?_
        rintro g81 _ _ s80 uu80 e82 ⟨k80_0, rfl, rfl, h80_0⟩ hS Qr80 hN80 hD80
        have nh80_0 := h80_0.len
        unfold o19_L3 at hS
        refine xSq ?_
        refine xRg ?_
        refine xB 1 [] [(1, vi capacity), (2, vp b1 0), (7, vs A8 s80.1 c8), (27, vi ((((List.replicate (l).length (0 : Int))).length : Nat) : Int)), (28, vi ((s80.2 : Nat) : Int)), (29, vb (decide (((s80.2 : Nat) : Int) < ((((List.replicate (l).length (0 : Int))).length : Nat) : Int))))] ?_
        refine xRe ?_
        refine wpq_then ?_
        refine xSq ?_
        refine xCd (decide (((s80.2 : Nat) : Int) < ((((List.replicate (l).length (0 : Int))).length : Nat) : Int))) (fun h83 => ?_) (fun h83 => ?_)
        · have hS := cond_T h83 hS
          have h83p := of_decide_eq_true h83
          refine xSk ?_
          refine wpq_then ?_
          refine xSub [(1, vi capacity), (2, vp b1 0), (7, vs A8 s80.1 c8), (27, vi ((((List.replicate (l).length (0 : Int))).length : Nat) : Int)), (28, vi ((s80.2 : Nat) : Int))] ?_
          refine xSq ?_
          refine xBl 1 ?_
          refine xSq ?_
          refine xRg ?_
          refine xB 2 [] [(1, vi capacity), (2, vp b1 0), (7, vs A8 s80.1 c8), (8, vi ((s80.2 : Nat) : Int)), (27, vi ((((List.replicate (l).length (0 : Int))).length : Nat) : Int)), (28, vi ((s80.2 : Nat) : Int))] ?_
          refine xRe ?_
          refine wpq_then ?_
          refine xRg ?_
          obtain ⟨q85, hS⟩ := grd_T hS
          have q85p := of_decide_eq_true q85
          obtain ⟨kc84, cs84, hA84, hk84, hr84, hw84⟩ := h80_0.open_ q85p 0
          obtain ⟨kb84, rfl⟩ : ∃ z, z = kc84 := ⟨_, rfl⟩
          subst hk84
          have hr84 : cs84 = [vi (List.getD s80.1 s80.2 0)] := hr84
          subst hr84
          refine xB 3 [] [(1, vi capacity), (2, vp b1 0), (7, vs A8 s80.1 c8), (27, vi ((((List.replicate (l).length (0 : Int))).length : Nat) : Int)), (28, vi ((s80.2 : Nat) : Int)), (31, vs A8 s80.1 c8), (32, vi ((s80.2 : Nat) : Int)), (33, vi ((s80.2 : Nat) : Int))] ?_
          refine xV (qIxB s80.2 1 kb84.g hA84 rfl q85p) ?_
          refine xD (eStB s80.2 1 0 1 [vi ((s80.2 : Nat) : Int)] h80_0 rfl hw84 (show (tyI .i64).rep _ _ _ from rfl) q85p) ?_
          rintro _ _ _ - ⟨k86, rfl, rfl, h86⟩
          have hz86 : (s80.1).length = ((List.set s80.1 s80.2 (((s80.2 : Nat) : Int) : Int))).length := by simp
          refine xRe ?_
          refine wpq_blockN ?_
          refine wpq_then ?_
          refine xSub [(1, vi capacity), (2, vp b1 0), (7, Value.slice A8 ((s80.1).length) c8), (27, vi ((((List.replicate (l).length (0 : Int))).length : Nat) : Int)), (28, vi ((s80.2 : Nat) : Int))] ?_
          refine xRg ?_
          obtain ⟨q87, hS⟩ := grd_T hS
          have q87p := of_decide_eq_true q87
          refine xV (qAdd .i64 (((s80.2 : Nat) : Int)) (1) (wr64 (by omega))) ?_
          refine xB 1 [] [(1, vi capacity), (2, vp b1 0), (7, Value.slice A8 ((s80.1).length) c8), (27, vi ((((List.replicate (l).length (0 : Int))).length : Nat) : Int)), (28, vi (((s80.2 : Nat) : Int) + 1))] ?_
          refine xRe ?_
          refine wpq_thenN ?_
          refine wpq_re 7 (v := Value.slice A8 ((s80.1).length) c8) (vs A8 (List.set s80.1 s80.2 (((s80.2 : Nat) : Int) : Int)) c8) (by kernel_rfl) (congrArg (fun z => Value.slice A8 z c8) hz86) ?_
          have h86 := Buf.re h86 hz86 (rfl : (List.set s80.1 s80.2 (((s80.2 : Nat) : Int) : Int)) = _)
          refine xSub [(1, vi capacity), (2, vp b1 0), (7, vs A8 (List.set s80.1 s80.2 (((s80.2 : Nat) : Int) : Int)) c8), (27, vi ((((List.replicate (l).length (0 : Int))).length : Nat) : Int)), (28, vi (((s80.2 : Nat) : Int) + 1))] ?_
          have eS := (Option.some.inj hS).symm
          exact hN80 _ eS _ _ _ (Gh.le.refl _) ⟨k86, by kernel_rfl, by kernel_rfl, h86⟩
        · have hS := cond_F h83 hS
          have h83p := of_decide_eq_false h83
          refine xEx 0 ?_
          refine wpq_thenX ?_
          refine wpq_thenX ?_
          refine wpq_blockE ?_
          refine xSub [(1, vi capacity), (2, vp b1 0), (7, vs A8 s80.1 c8)] ?_
          have eS := (Option.some.inj hS).symm
          have eS := (hD80 _ eS).symm
          exact hN9 _ eS _ _ _ e82 ⟨k80_0, by kernel_rfl, by kernel_rfl, h80_0⟩

def o12 : Option (Bool) :=
  (bindO (τ := (List UInt8) × Int) (o14 (⟨1, 2, 258, ([(u8 65)] : List UInt8)⟩ : Frame)) fun y5 => (bindO (τ := Frame × Int) (o16 (y5.1 : List UInt8)) fun y8 => (bindO (τ := (List Slot) × Int) (o19 (([(⟨1, 1, 3⟩ : Msg), (⟨2, 2, 4⟩ : Msg), (⟨3, 2, 5⟩ : Msg)] : List Msg) : List Msg) (8 : Int)) fun y13 => (letJ (τ := Bool) (cond (((((y5.1).length : Nat) : Int) == 17)) ((List.take 13 y5.1) == ([1, 2, 2, 1, 0, 0, 0, 0, 0, 0, 1, 0, 65])) (false)) fun t16 => (letJ (τ := Bool) (cond ((((((t16 && (y5.2 == 0)) && (y8.1.cycle == 258)) && (y8.1.payload == [65])) && (y8.2 == 0)) && ((((y13.1).length : Nat) : Int) == 3))) (((List.getD y13.1 1 default).label == 2) && ((List.getD y13.1 1 default).offset == 1)) (false)) fun t24 => (some (((t24 && (y13.2 == 0))))))))))
set_option maxRecDepth 100000 in
theorem c12 (g : Gh)  {r : Bool} (hS : o12 = some r) :
    Ctr Try.prog 12 [] g [] (fun v ψ o => v = vb r ∧ o = []) := by
  unfold o12 at hS
  refine xFn Try.f12 (Try.f12.body.getD .skip) 71 ?_
  refine xSq ?_
  refine xRg ?_
  refine xB 1 [] [] ?_
  refine xRe ?_
  refine wpq_then ?_
  refine xSq ?_
  refine xRg ?_
  refine xE (eBs (T := tyU8) (p := g.b) (et := 5) (xs := ([(u8 65)] : List UInt8)) (reps_cons (c := [vy 65]) (u8_rep (by omega)) reps_nil) (by simp)) ?_
  rintro _ _ _ - ⟨A1, c1, k1, rfl, rfl, rfl, h1⟩
  refine xE (eCv 0 h1 (by first | omega | simp)) ?_
  rintro _ g3 _ e4 ⟨rfl, rfl, f2⟩
  have nf2 := f2.len
  refine xB 1 [] [(10, Value.agg #[vy 1, vy 2, vi 258, vs A1 ([(u8 65)] : List UInt8) c1])] ?_
  obtain ⟨y5, hy5, hS⟩ := bindO_T hS
  refine xE (eC 0 (fun g' lr eb ln => c14 g' (⟨1, 2, 258, ([(u8 65)] : List UInt8)⟩ : Frame) A1 c1 ((f2.mono g3.br).mono lr) hy5)) ?_
  rintro _ g6 _ e7 ⟨_, rfl, A5_0, c5_0, k5_0, rfl, rfl, h5_0⟩
  have nh5_0 := h5_0.len
  refine xB 5 [] [(1, vs A5_0 y5.1 c5_0), (2, vi y5.2)] ?_
  refine xRe ?_
  refine wpq_then ?_
  refine xSq ?_
  refine xRg ?_
  refine xB 1 [] [(1, vs A5_0 y5.1 c5_0), (2, vi y5.2), (15, vs A5_0 y5.1 c5_0)] ?_
  obtain ⟨y8, hy8, hS⟩ := bindO_T hS
  refine xE (eC 0 (fun g' lr eb ln => c16 g' (y5.1 : List UInt8) A5_0 c5_0 (arr_of_buf h5_0 (Psi.le_b eb) (lentk 0 (by kernel_rfl) ln)) hy8)) ?_
  rintro _ g9 _ e10 ⟨_, rfl, A8_0_payload, c8_0_payload, rfl, rfl, f8_0_payload⟩
  have nf8_0_payload := f8_0_payload.len
  refine xB 3 [] [(1, vs A5_0 y5.1 c5_0), (2, vi y5.2), (17, Value.agg #[vy y8.1.label, vy y8.1.from_, vi y8.1.cycle, vs A8_0_payload y8.1.payload c8_0_payload]), (18, vi y8.2)] ?_
  refine xE eB ?_
  rintro _ _ _ - ⟨b11, rfl, rfl, rfl⟩
  refine xBo 2 [(6, 0)] [some ⟨b11, 24, (cFrame y8.1 A8_0_payload c8_0_payload)⟩, k5_0, none] [(1, vs A5_0 y5.1 c5_0), (2, vi y5.2), (3, vp b11 0), (4, vi y8.2)] ?_
  refine xRe ?_
  refine wpq_then ?_
  refine xSq ?_
  refine xRg ?_
  refine xB 3 [] [(1, vs A5_0 y5.1 c5_0), (2, vi y5.2), (3, vp b11 0), (4, vi y8.2), (20, Value.agg #[vy 1, vi 1, vi 3]), (21, Value.agg #[vy 2, vi 2, vi 4]), (22, Value.agg #[vy 3, vi 2, vi 5])] ?_
  refine xE (eBs (T := tyMsg) (p := g9.b) (et := 70) (xs := ([(⟨1, 1, 3⟩ : Msg), (⟨2, 2, 4⟩ : Msg), (⟨3, 2, 5⟩ : Msg)] : List Msg)) (reps_cons (c := [vy 1, vi 1, vi 3]) (show tyMsg.rep _ _ (⟨1, 1, 3⟩ : Msg) from rfl) (reps_cons (c := [vy 2, vi 2, vi 4]) (show tyMsg.rep _ _ (⟨2, 2, 4⟩ : Msg) from rfl) (reps_cons (c := [vy 3, vi 2, vi 5]) (show tyMsg.rep _ _ (⟨3, 2, 5⟩ : Msg) from rfl) reps_nil))) (by simp)) ?_
  rintro _ _ _ - ⟨A12, c12, k12, rfl, rfl, rfl, h12⟩
  obtain ⟨y13, hy13, hS⟩ := bindO_T hS
  refine xE (eC 0 (fun g' lr eb ln => c19 g' (([(⟨1, 1, 3⟩ : Msg), (⟨2, 2, 4⟩ : Msg), (⟨3, 2, 5⟩ : Msg)] : List Msg) : List Msg) A12 c12 (8 : Int) (arrm_of_buf h12 eb (lentk 0 (by kernel_rfl) ln)) hy13)) ?_
  rintro _ g14 _ e15 ⟨_, rfl, A13_0, c13_0, k13_0, rfl, rfl, h13_0⟩
  have nh13_0 := h13_0.len
  refine xB 5 [] [(1, vs A5_0 y5.1 c5_0), (2, vi y5.2), (3, vp b11 0), (4, vi y8.2), (5, vs A13_0 y13.1 c13_0), (6, vi y13.2)] ?_
  refine xRe ?_
  refine wpq_then ?_
  refine xSq ?_
  refine xRg ?_
  refine xB 4 [] [(1, vs A5_0 y5.1 c5_0), (2, vi y5.2), (3, vp b11 0), (4, vi y8.2), (5, vs A13_0 y13.1 c13_0), (6, vi y13.2), (30, vb ((((y5.1).length : Nat) : Int) == 17))] ?_
  refine xGJl hS 9 (fun g own sl t16 => own = [some ⟨b11, 24, (cFrame y8.1 A8_0_payload c8_0_payload)⟩, k13_0] ∧ sl = [(2, vi y5.2), (3, vp b11 0), (4, vi y8.2), (5, vs A13_0 y13.1 c13_0), (6, vi y13.2), (35, vb t16)]) ?_ ?_
  · rintro g17 _ _ t16 e18 ⟨rfl, rfl⟩ hS
    refine xB 1 [] [(2, vi y5.2), (3, vp b11 0), (4, vi y8.2), (5, vs A13_0 y13.1 c13_0), (6, vi y13.2), (36, vb t16)] ?_
    refine wpr_grp 13 [(3, vp b11 0), (4, vi y8.2), (5, vs A13_0 y13.1 c13_0), (6, vi y13.2), (39, vb (t16 && (y5.2 == 0)))] (fun hk9 => ?_) ?_
    · refine wpq_split 36 (b := t16) (by kernel_rfl) (fun q19 => ?_) (fun q19 => ?_)
      · refine xB 3 [] [(3, vp b11 0), (4, vi y8.2), (5, vs A13_0 y13.1 c13_0), (6, vi y13.2), (39, vb (y5.2 == 0))] ?_
        refine wpq_re 39 (v := vb (y5.2 == 0)) (Value.bool ((t16 && (y5.2 == 0)))) (by kernel_rfl) (re_and1 q19) ?_
        exact wpq_sub _ (by kernel_rfl) hk9
      · refine xB 3 [] [(3, vp b11 0), (4, vi y8.2), (5, vs A13_0 y13.1 c13_0), (6, vi y13.2), (39, vb false)] ?_
        refine wpq_re 39 (v := vb false) (Value.bool ((t16 && (y5.2 == 0)))) (by kernel_rfl) (re_and0 q19) ?_
        exact wpq_sub _ (by kernel_rfl) hk9
    · refine xB 1 [] [(3, vp b11 0), (4, vi y8.2), (5, vs A13_0 y13.1 c13_0), (6, vi y13.2), (40, vb (t16 && (y5.2 == 0)))] ?_
      refine wpr_grp 18 [(3, vp b11 0), (4, vi y8.2), (5, vs A13_0 y13.1 c13_0), (6, vi y13.2), (44, vb ((t16 && (y5.2 == 0)) && (y8.1.cycle == 258)))] (fun hk13 => ?_) ?_
      · refine wpq_split 40 (b := (t16 && (y5.2 == 0))) (by kernel_rfl) (fun q20 => ?_) (fun q20 => ?_)
        · have q20l := (and_true_ q20).1
          have q20r := (and_true_ q20).2
          have q20rp : y5.2 = 0 := eq_of_beq q20r
          refine xB 4 [(15, 0)] [(3, vp b11 0), (4, vi y8.2), (5, vs A13_0 y13.1 c13_0), (6, vi y13.2), (44, vb (y8.1.cycle == 258))] ?_
          refine wpq_re 44 (v := vb (y8.1.cycle == 258)) (Value.bool (((t16 && (y5.2 == 0)) && (y8.1.cycle == 258)))) (by kernel_rfl) (re_and1 q20) ?_
          exact wpq_sub _ (by kernel_rfl) hk13
        · refine xB 4 [] [(3, vp b11 0), (4, vi y8.2), (5, vs A13_0 y13.1 c13_0), (6, vi y13.2), (44, vb false)] ?_
          refine wpq_re 44 (v := vb false) (Value.bool (((t16 && (y5.2 == 0)) && (y8.1.cycle == 258)))) (by kernel_rfl) (re_and0 q20) ?_
          exact wpq_sub _ (by kernel_rfl) hk13
      · refine xB 1 [] [(3, vp b11 0), (4, vi y8.2), (5, vs A13_0 y13.1 c13_0), (6, vi y13.2), (45, vb ((t16 && (y5.2 == 0)) && (y8.1.cycle == 258)))] ?_
        refine wpr_grp 24 [(4, vi y8.2), (5, vs A13_0 y13.1 c13_0), (6, vi y13.2), (50, vb (((t16 && (y5.2 == 0)) && (y8.1.cycle == 258)) && (y8.1.payload == [65])))] (fun hk18 => ?_) ?_
        · refine wpq_split 45 (b := ((t16 && (y5.2 == 0)) && (y8.1.cycle == 258))) (by kernel_rfl) (fun q21 => ?_) (fun q21 => ?_)
          · have q21l := (and_true_ q21).1
            have q21r := (and_true_ q21).2
            have q21ll := (and_true_ q21l).1
            have q21lr := (and_true_ q21l).2
            have q21lrp : y5.2 = 0 := eq_of_beq q21lr
            have q21rp : y8.1.cycle = 258 := eq_of_beq q21r
            have f8_0_payload := f8_0_payload.mono (e15.trans e18).b
            refine xB 2 [(20, 0)] [(4, vi y8.2), (5, vs A13_0 y13.1 c13_0), (6, vi y13.2), (45, vb true), (47, vs A8_0_payload y8.1.payload c8_0_payload)] ?_
            refine xV (qStr (f8_0_payload.mono g17.br)) ?_
            refine xV (qEqS (y8.1.payload) ([65])) ?_
            refine xB 1 [] [(4, vi y8.2), (5, vs A13_0 y13.1 c13_0), (6, vi y13.2), (50, vb (y8.1.payload == [65]))] ?_
            refine wpq_re 50 (v := vb (y8.1.payload == [65])) (Value.bool ((((t16 && (y5.2 == 0)) && (y8.1.cycle == 258)) && (y8.1.payload == [65])))) (by kernel_rfl) (re_and1 q21) ?_
            exact wpq_sub _ (by kernel_rfl) hk18
          · refine xB 5 [] [(4, vi y8.2), (5, vs A13_0 y13.1 c13_0), (6, vi y13.2), (50, vb false)] ?_
            refine wpq_re 50 (v := vb false) (Value.bool ((((t16 && (y5.2 == 0)) && (y8.1.cycle == 258)) && (y8.1.payload == [65])))) (by kernel_rfl) (re_and0 q21) ?_
            exact wpq_sub _ (by kernel_rfl) hk18
        · refine xB 1 [] [(4, vi y8.2), (5, vs A13_0 y13.1 c13_0), (6, vi y13.2), (51, vb (((t16 && (y5.2 == 0)) && (y8.1.cycle == 258)) && (y8.1.payload == [65])))] ?_
          refine wpr_grp 28 [(5, vs A13_0 y13.1 c13_0), (6, vi y13.2), (54, vb ((((t16 && (y5.2 == 0)) && (y8.1.cycle == 258)) && (y8.1.payload == [65])) && (y8.2 == 0)))] (fun hk24 => ?_) ?_
          · refine wpq_split 51 (b := (((t16 && (y5.2 == 0)) && (y8.1.cycle == 258)) && (y8.1.payload == [65]))) (by kernel_rfl) (fun q22 => ?_) (fun q22 => ?_)
            · have q22l := (and_true_ q22).1
              have q22r := (and_true_ q22).2
              have q22ll := (and_true_ q22l).1
              have q22lr := (and_true_ q22l).2
              have q22lll := (and_true_ q22ll).1
              have q22llr := (and_true_ q22ll).2
              have q22llrp : y5.2 = 0 := eq_of_beq q22llr
              have q22lrp : y8.1.cycle = 258 := eq_of_beq q22lr
              have q22rp : y8.1.payload = [65] := eq_of_beq q22r
              refine xB 3 [] [(5, vs A13_0 y13.1 c13_0), (6, vi y13.2), (54, vb (y8.2 == 0))] ?_
              refine wpq_re 54 (v := vb (y8.2 == 0)) (Value.bool (((((t16 && (y5.2 == 0)) && (y8.1.cycle == 258)) && (y8.1.payload == [65])) && (y8.2 == 0)))) (by kernel_rfl) (re_and1 q22) ?_
              exact wpq_sub _ (by kernel_rfl) hk24
            · refine xB 3 [] [(5, vs A13_0 y13.1 c13_0), (6, vi y13.2), (54, vb false)] ?_
              refine wpq_re 54 (v := vb false) (Value.bool (((((t16 && (y5.2 == 0)) && (y8.1.cycle == 258)) && (y8.1.payload == [65])) && (y8.2 == 0)))) (by kernel_rfl) (re_and0 q22) ?_
              exact wpq_sub _ (by kernel_rfl) hk24
          · refine xB 1 [] [(5, vs A13_0 y13.1 c13_0), (6, vi y13.2), (55, vb ((((t16 && (y5.2 == 0)) && (y8.1.cycle == 258)) && (y8.1.payload == [65])) && (y8.2 == 0)))] ?_
            refine wpr_grp 33 [(5, vs A13_0 y13.1 c13_0), (6, vi y13.2), (59, vb (((((t16 && (y5.2 == 0)) && (y8.1.cycle == 258)) && (y8.1.payload == [65])) && (y8.2 == 0)) && ((((y13.1).length : Nat) : Int) == 3)))] (fun hk28 => ?_) ?_
            · refine wpq_split 55 (b := ((((t16 && (y5.2 == 0)) && (y8.1.cycle == 258)) && (y8.1.payload == [65])) && (y8.2 == 0))) (by kernel_rfl) (fun q23 => ?_) (fun q23 => ?_)
              · have q23l := (and_true_ q23).1
                have q23r := (and_true_ q23).2
                have q23ll := (and_true_ q23l).1
                have q23lr := (and_true_ q23l).2
                have q23lll := (and_true_ q23ll).1
                have q23llr := (and_true_ q23ll).2
                have q23llll := (and_true_ q23lll).1
                have q23lllr := (and_true_ q23lll).2
                have q23lllrp : y5.2 = 0 := eq_of_beq q23lllr
                have q23llrp : y8.1.cycle = 258 := eq_of_beq q23llr
                have q23lrp : y8.1.payload = [65] := eq_of_beq q23lr
                have q23rp : y8.2 = 0 := eq_of_beq q23r
                refine xB 4 [] [(5, vs A13_0 y13.1 c13_0), (6, vi y13.2), (59, vb ((((y13.1).length : Nat) : Int) == 3))] ?_
                refine wpq_re 59 (v := vb ((((y13.1).length : Nat) : Int) == 3)) (Value.bool ((((((t16 && (y5.2 == 0)) && (y8.1.cycle == 258)) && (y8.1.payload == [65])) && (y8.2 == 0)) && ((((y13.1).length : Nat) : Int) == 3)))) (by kernel_rfl) (re_and1 q23) ?_
                exact wpq_sub _ (by kernel_rfl) hk28
              · refine xB 4 [] [(5, vs A13_0 y13.1 c13_0), (6, vi y13.2), (59, vb false)] ?_
                refine wpq_re 59 (v := vb false) (Value.bool ((((((t16 && (y5.2 == 0)) && (y8.1.cycle == 258)) && (y8.1.payload == [65])) && (y8.2 == 0)) && ((((y13.1).length : Nat) : Int) == 3)))) (by kernel_rfl) (re_and0 q23) ?_
                exact wpq_sub _ (by kernel_rfl) hk28
            · refine xB 1 [] [(5, vs A13_0 y13.1 c13_0), (6, vi y13.2), (60, vb (((((t16 && (y5.2 == 0)) && (y8.1.cycle == 258)) && (y8.1.payload == [65])) && (y8.2 == 0)) && ((((y13.1).length : Nat) : Int) == 3)))] ?_
              refine xGJl hS 40 (fun g own sl t24 => own = [] ∧ sl = [(6, vi y13.2), (66, vb t24)]) ?_ ?_
              · rintro g25 _ _ t24 e26 ⟨rfl, rfl⟩ hS
                refine xB 1 [] [(6, vi y13.2), (67, vb t24)] ?_
                refine wpr_grp 44 [(70, vb (t24 && (y13.2 == 0)))] (fun hk40 => ?_) ?_
                · refine wpq_split 67 (b := t24) (by kernel_rfl) (fun q27 => ?_) (fun q27 => ?_)
                  · refine xB 3 [] [(70, vb (y13.2 == 0))] ?_
                    refine wpq_re 70 (v := vb (y13.2 == 0)) (Value.bool ((t24 && (y13.2 == 0)))) (by kernel_rfl) (re_and1 q27) ?_
                    exact wpq_sub _ (by kernel_rfl) hk40
                  · refine xB 3 [] [(70, vb false)] ?_
                    refine wpq_re 70 (v := vb false) (Value.bool ((t24 && (y13.2 == 0)))) (by kernel_rfl) (re_and0 q27) ?_
                    exact wpq_sub _ (by kernel_rfl) hk40
                · refine xB 1 [] [(0, vb (t24 && (y13.2 == 0)))] ?_
                  refine xRe ?_
                  refine wpq_then ?_
                  have eS := (Option.some.inj hS).symm
                  subst eS
                  exact xRet [] [0] (e4.trans (e7.trans (e10.trans (e15.trans (e18.trans e26))))) ⟨by kernel_rfl, by kernel_rfl⟩ (fun _ _ h => h)
              · intro uu24 hS hN24
                refine wpq_split 60 (b := (((((t16 && (y5.2 == 0)) && (y8.1.cycle == 258)) && (y8.1.payload == [65])) && (y8.2 == 0)) && ((((y13.1).length : Nat) : Int) == 3))) (by kernel_rfl) (fun q28 => ?_) (fun q28 => ?_)
                · have hS := cond_T q28 hS
                  have q28l := (and_true_ q28).1
                  have q28r := (and_true_ q28).2
                  have q28ll := (and_true_ q28l).1
                  have q28lr := (and_true_ q28l).2
                  have q28lll := (and_true_ q28ll).1
                  have q28llr := (and_true_ q28ll).2
                  have q28llll := (and_true_ q28lll).1
                  have q28lllr := (and_true_ q28lll).2
                  have q28lllll := (and_true_ q28llll).1
                  have q28llllr := (and_true_ q28llll).2
                  have q28llllrp : y5.2 = 0 := eq_of_beq q28llllr
                  have q28lllrp : y8.1.cycle = 258 := eq_of_beq q28lllr
                  have q28llrp : y8.1.payload = [65] := eq_of_beq q28llr
                  have q28lrp : y8.2 = 0 := eq_of_beq q28lr
                  have q28rp : (((y13.1).length : Nat) : Int) = 3 := eq_of_beq q28r
                  have h13_0 := h13_0.mono e18.b
                  have i30 : 1 < (y13.1).length := by omega
                  obtain ⟨kc29, cs29, hA29, hk29, hr29, hw29⟩ := h13_0.open_ i30 default
                  obtain ⟨kb29, rfl⟩ : ∃ z, z = kc29 := ⟨_, rfl⟩
                  subst hk29
                  obtain ⟨rfl⟩ := hr29
                  refine xB 1 [] [(6, vi y13.2), (60, vb true), (61, vs A13_0 y13.1 c13_0)] ?_
                  refine xV (qIxB 1 2 kb29.g hA29 rfl i30) ?_
                  refine xV (qLdB 1 2 0 1 hw29) ?_
                  refine xB 1 [] [(6, vi y13.2), (60, vb true), (63, Value.agg #[vy ((List.getD y13.1 1 default).label), vi ((List.getD y13.1 1 default).offset)]), (64, Value.agg #[vy 2, vi 1])] ?_
                  refine xV (qEqA ((((List.getD y13.1 1 default).label == 2) && ((List.getD y13.1 1 default).offset == 1)))) ?_
                  refine xB 1 [] [(6, vi y13.2), (66, vb (((List.getD y13.1 1 default).label == 2) && ((List.getD y13.1 1 default).offset == 1)))] ?_
                  refine xSel [] ?_
                  refine xSub [(6, vi y13.2), (66, vb (((List.getD y13.1 1 default).label == 2) && ((List.getD y13.1 1 default).offset == 1)))] ?_
                  exact hN24 _ hS.symm _ _ _ (Gh.le.refl _) ⟨by kernel_rfl, by kernel_rfl⟩
                · have hS := cond_F q28 hS
                  refine xB 6 [] [(6, vi y13.2), (66, vb false)] ?_
                  refine xSel [] ?_
                  refine xSub [(6, vi y13.2), (66, vb false)] ?_
                  exact hN24 _ hS.symm _ _ _ (Gh.le.refl _) ⟨by kernel_rfl, by kernel_rfl⟩
  · intro uu16 hS hN16
    refine wpq_split 30 (b := ((((y5.1).length : Nat) : Int) == 17)) (by kernel_rfl) (fun q31 => ?_) (fun q31 => ?_)
    · have hS := cond_T q31 hS
      have q31p : (((y5.1).length : Nat) : Int) = 17 := eq_of_beq q31
      refine xB 1 [] [(2, vi y5.2), (3, vp b11 0), (4, vi y8.2), (5, vs A13_0 y13.1 c13_0), (6, vi y13.2), (30, vb true), (31, vs A5_0 y5.1 c5_0)] ?_
      have h5_0 := h5_0.mono (e10.trans e15).b
      refine wpq_freeze 3 (by kernel_rfl) h5_0 (fun g32 e33 f34 => ?_)
      have ncapf35 := f34.cap
      have f35 : Arr g32.b tyU8 (offA A5_0 c5_0 0 1) (c5_0 - 0) (List.take 13 y5.1) := f34.cut_to 13 (by omega)
      have nf35 := f35.len
      have hlf35 : 13 - 0 = ((List.take 13 y5.1)).length := by simp only [List.length_take, List.length_drop] <;> omega
      have hvf35 : ((((List.take 13 y5.1)).length : Nat) : Int) = 13 - 0 := by omega
      refine xV (qSl (m := 1) (A := A5_0) (len := (y5.1).length) (c := c5_0) 0 13 none (some 13) ((List.take 13 y5.1)).length rfl rfl (by omega) (by omega) hlf35) ?_
      refine xV (qStr (f35.mono g32.br)) ?_
      refine xV (qEqS ((List.take 13 y5.1)) ([1, 2, 2, 1, 0, 0, 0, 0, 0, 0, 1, 0, 65])) ?_
      refine xB 1 [] [(2, vi y5.2), (3, vp b11 0), (4, vi y8.2), (5, vs A13_0 y13.1 c13_0), (6, vi y13.2), (35, vb ((List.take 13 y5.1) == ([1, 2, 2, 1, 0, 0, 0, 0, 0, 0, 1, 0, 65])))] ?_
      refine xSel [some 2, some 0] ?_
      refine xSub [(2, vi y5.2), (3, vp b11 0), (4, vi y8.2), (5, vs A13_0 y13.1 c13_0), (6, vi y13.2), (35, vb ((List.take 13 y5.1) == ([1, 2, 2, 1, 0, 0, 0, 0, 0, 0, 1, 0, 65])))] ?_
      exact hN16 _ hS.symm _ _ _ e33 ⟨by kernel_rfl, by kernel_rfl⟩
    · have hS := cond_F q31 hS
      have q31p : ¬ ((((y5.1).length : Nat) : Int) = 17) := ne_of_beq_false_ q31
      refine xB 5 [] [(2, vi y5.2), (3, vp b11 0), (4, vi y8.2), (5, vs A13_0 y13.1 c13_0), (6, vi y13.2), (35, vb false)] ?_
      refine xSel [some 2, some 0] ?_
      refine xSub [(2, vi y5.2), (3, vp b11 0), (4, vi y8.2), (5, vs A13_0 y13.1 c13_0), (6, vi y13.2), (35, vb false)] ?_
      exact hN16 _ hS.symm _ _ _ (Gh.le.refl _) ⟨by kernel_rfl, by kernel_rfl⟩

end Go.Proofs.Ytmcgofgpcnlljaa
