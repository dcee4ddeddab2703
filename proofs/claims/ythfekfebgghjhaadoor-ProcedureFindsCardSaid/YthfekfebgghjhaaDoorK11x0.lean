/-
Walks, printed by wip/gen. Conditions: each theorem's own.
-/
import Derived.Test.YthfekfebgghjhaaDoorT2
namespace Go.Proofs.YthfekfebgghjhaaDoor
set_option linter.unusedVariables false
set_option linter.unusedSimpArgs false
open Go.RowKit
def o53 (a : List UInt8) (b : List UInt8) : Int :=
  (cond ((strLt a b)) ((-1 : Int)) (cond ((strGt a b)) ((1 : Int)) ((0 : Int))))
set_option maxRecDepth 100000 in
theorem C53 (g : Gh) (a : List UInt8) (b : List UInt8) {r : Int} (hS : o53 a b = r) :
    Ctr Tryd.prog 53 [vt a, vt b] g [] (fun v ψ o => v = vi r ∧ o = []) := by
  unfold o53 at hS
  refine xFn Tryd.f53 (Tryd.f53.body.getD .skip) 11 ?_
  refine xSq ?_
  refine xRg ?_
  refine xB 1 [] [(0, vt a), (1, vt b)] ?_
  refine xRe ?_
  refine wpq_then ?_
  refine xSq ?_
  refine xSq ?_
  refine xRg ?_
  refine xB 3 [] [(0, vt a), (1, vt b), (7, vb (strLt a b))] ?_
  refine xRe ?_
  refine wpq_then ?_
  refine xCd ((strLt a b)) (fun h1 => ?_) (fun h1 => ?_)
  · have hS := cond_T h1 hS
    refine xSq ?_
    refine xRg ?_
    refine xB 1 [] [(4, vi (-1))] ?_
    refine xRe ?_
    refine wpq_then ?_
    have eS := hS.symm
    subst eS
    exact xRet [] [4] (Gh.le.refl _) ⟨by kernel_rfl, by kernel_rfl⟩ (fun _ _ h => h)
  · have hS := cond_F h1 hS
    refine xSk ?_
    refine wpq_then ?_
    refine xSub [(0, vt a), (1, vt b)] ?_
    refine xSq ?_
    refine xSq ?_
    refine xRg ?_
    refine xB 3 [] [(10, vb (strGt a b))] ?_
    refine xRe ?_
    refine wpq_then ?_
    refine xCd ((strGt a b)) (fun h2 => ?_) (fun h2 => ?_)
    · have hS := cond_T h2 hS
      refine xSq ?_
      refine xRg ?_
      refine xB 1 [] [(4, vi 1)] ?_
      refine xRe ?_
      refine wpq_then ?_
      have eS := hS.symm
      subst eS
      exact xRet [] [4] (Gh.le.refl _) ⟨by kernel_rfl, by kernel_rfl⟩ (fun _ _ h => h)
    · have hS := cond_F h2 hS
      refine xSk ?_
      refine wpq_then ?_
      refine xSub [] ?_
      refine xSq ?_
      refine xRg ?_
      refine xB 1 [] [(4, vi 0)] ?_
      refine xRe ?_
      refine wpq_then ?_
      have eS := hS.symm
      subst eS
      exact xRet [] [4] (Gh.le.refl _) ⟨by kernel_rfl, by kernel_rfl⟩ (fun _ _ h => h)

def o30 (p : Proc) (q : Proc) : Int :=
  (letJ (τ := Int) (o53 p.airport q.airport) fun y3 => (cond ((y3 != 0)) ((y3 : Int)) (cond ((p.kind != q.kind)) (cond (decide (p.kind < q.kind)) ((-1 : Int)) ((1 : Int))) (letJ (τ := Int) (o53 p.name q.name) fun y9 => ((y9 : Int))))))
set_option maxRecDepth 100000 in
theorem C30 (g : Gh) (p : Proc) (Ap_parts : Option Addr) (cp_parts : Nat) (q : Proc) (Aq_parts : Option Addr) (cq_parts : Nat) (fp_parts : Arr g.r tyPart Ap_parts cp_parts p.parts) (fq_parts : Arr g.r tyPart Aq_parts cq_parts q.parts) {r : Int} (hS : o30 p q = r) :
    Ctr Tryd.prog 30 [Value.agg #[vt p.airport, vt p.name, vy p.kind, vs Ap_parts p.parts cp_parts], Value.agg #[vt q.airport, vt q.name, vy q.kind, vs Aq_parts q.parts cq_parts]] g [] (fun v ψ o => v = vi r ∧ o = []) := by
  unfold o30 at hS
  refine xFn Tryd.f30 (Tryd.f30.body.getD .skip) 29 ?_
  have nfp_parts := fp_parts.len
  have nfq_parts := fq_parts.len
  refine xSq ?_
  refine xRg ?_
  refine xE eB ?_
  rintro _ _ _ - ⟨b1, rfl, rfl, rfl⟩
  refine xE eB ?_
  rintro _ _ _ - ⟨b2, rfl, rfl, rfl⟩
  refine xB 1 [] [(2, vp b1 0), (3, vp b2 0)] ?_
  refine xRe ?_
  refine wpq_then ?_
  refine xSq ?_
  refine xSq ?_
  refine xRg ?_
  refine xB 4 [(1, 1), (3, 0)] [(2, vp b1 0), (3, vp b2 0), (7, vt p.airport), (9, vt q.airport)] ?_
  obtain ⟨y3, hy3, hS⟩ := letJ_T hS
  refine xE (eC 0 (fun g' lr eb ln => C53 g' p.airport q.airport hy3)) ?_
  rintro _ g4 _ e5 ⟨_, rfl, rfl, rfl⟩
  refine xB 1 [] [(2, vp b1 0), (3, vp b2 0), (5, vi y3)] ?_
  refine xRe ?_
  refine wpq_then ?_
  refine xSq ?_
  refine xRg ?_
  refine xB 2 [] [(2, vp b1 0), (3, vp b2 0), (5, vi y3), (12, vb (y3 != 0))] ?_
  refine xRe ?_
  refine wpq_then ?_
  refine xCd ((y3 != 0)) (fun h6 => ?_) (fun h6 => ?_)
  · have hS := cond_T h6 hS
    have h6p : ¬ (y3 = 0) := ne_of_bne_ h6
    refine xSq ?_
    refine xRg ?_
    refine xB 2 [] [(4, vi y3)] ?_
    refine xRe ?_
    refine wpq_then ?_
    have eS := hS.symm
    subst eS
    exact xRet [] [4] e5 ⟨by kernel_rfl, by kernel_rfl⟩ (fun _ _ h => h)
  · have hS := cond_F h6 hS
    have h6p : y3 = 0 := eq_of_bne_false_ h6
    refine xSk ?_
    refine wpq_then ?_
    refine xSub [(2, vp b1 0), (3, vp b2 0)] ?_
    refine xSq ?_
    refine xSq ?_
    refine xRg ?_
    refine xB 5 [(1, 1), (3, 0)] [(2, vp b1 0), (3, vp b2 0), (18, vb (p.kind != q.kind))] ?_
    refine xRe ?_
    refine wpq_then ?_
    refine xCd ((p.kind != q.kind)) (fun h7 => ?_) (fun h7 => ?_)
    · have hS := cond_T h7 hS
      have h7p : ¬ (p.kind = q.kind) := ne_of_bne_ h7
      refine xSq ?_
      refine xSq ?_
      refine xRg ?_
      refine xB 5 [(1, 1), (3, 0)] [(23, vb (decide (p.kind < q.kind)))] ?_
      refine xRe ?_
      refine wpq_then ?_
      refine xCd (decide (p.kind < q.kind)) (fun h8 => ?_) (fun h8 => ?_)
      · have hS := cond_T h8 hS
        have h8p := of_decide_eq_true h8
        refine xSq ?_
        refine xRg ?_
        refine xB 1 [] [(4, vi (-1))] ?_
        refine xRe ?_
        refine wpq_then ?_
        have eS := hS.symm
        subst eS
        exact xRet [] [4] e5 ⟨by kernel_rfl, by kernel_rfl⟩ (fun _ _ h => h)
      · have hS := cond_F h8 hS
        have h8p := of_decide_eq_false h8
        refine xSk ?_
        refine wpq_then ?_
        refine xSub [] ?_
        refine xSq ?_
        refine xRg ?_
        refine xB 1 [] [(4, vi 1)] ?_
        refine xRe ?_
        refine wpq_then ?_
        have eS := hS.symm
        subst eS
        exact xRet [] [4] e5 ⟨by kernel_rfl, by kernel_rfl⟩ (fun _ _ h => h)
    · have hS := cond_F h7 hS
      have h7p : p.kind = q.kind := eq_of_bne_false_ h7
      refine xSk ?_
      refine wpq_then ?_
      refine xSub [(2, vp b1 0), (3, vp b2 0)] ?_
      refine xSq ?_
      refine xRg ?_
      refine xB 4 [(1, 1), (3, 0)] [(25, vt p.name), (27, vt q.name)] ?_
      obtain ⟨y9, hy9, hS⟩ := letJ_T hS
      refine xE (eC 0 (fun g' lr eb ln => C53 g' p.name q.name hy9)) ?_
      rintro _ g10 _ e11 ⟨_, rfl, rfl, rfl⟩
      refine xB 1 [] [(4, vi y9)] ?_
      refine xRe ?_
      refine wpq_then ?_
      have eS := hS.symm
      subst eS
      exact xRet [] [4] (e5.trans e11) ⟨by kernel_rfl, by kernel_rfl⟩ (fun _ _ h => h)

def o55 (p : Proc) (fv : List UInt8) (fv_ : Int) (fv__ : List UInt8) : Bool :=
  (((((p.airport == fv) && (p.kind == fv_)) && (p.name == fv__))))
set_option maxRecDepth 100000 in
theorem C55 (g : Gh) (p : Proc) (Ap_parts : Option Addr) (cp_parts : Nat) (a_fv : Addr) (fv : List UInt8) (a_fv_ : Addr) (fv_ : Int) (a_fv__ : Addr) (fv__ : List UInt8) (fp_parts : Arr g.r tyPart Ap_parts cp_parts p.parts) (hc_fv : Cells g.r a_fv [vt fv]) (hc_fv_ : Cells g.r a_fv_ [vy fv_]) (hc_fv__ : Cells g.r a_fv__ [vt fv__]) {r : Bool} (hS : o55 p fv fv_ fv__ = r) :
    Ctr Tryd.prog 55 [Value.agg #[vt p.airport, vt p.name, vy p.kind, vs Ap_parts p.parts cp_parts], Value.pointer (some a_fv), Value.pointer (some a_fv_), Value.pointer (some a_fv__)] g [] (fun v ψ o => v = vb r ∧ o = []) := by
  unfold o55 at hS
  refine xFn Tryd.f55 (Tryd.f55.body.getD .skip) 22 ?_
  have nfp_parts := fp_parts.len
  refine xSq ?_
  refine xRg ?_
  refine xE eB ?_
  rintro _ _ _ - ⟨b1, rfl, rfl, rfl⟩
  refine xB 1 [] [(1, Value.pointer (some a_fv)), (2, Value.pointer (some a_fv_)), (3, Value.pointer (some a_fv__)), (4, vp b1 0)] ?_
  refine xRe ?_
  refine wpq_then ?_
  refine xSq ?_
  refine xRg ?_
  refine xB 2 [(1, 0)] [(1, Value.pointer (some a_fv)), (2, Value.pointer (some a_fv_)), (3, Value.pointer (some a_fv__)), (4, vp b1 0), (7, vt p.airport)] ?_
  refine xV (qLdP a_fv 0 hc_fv) ?_
  refine xV (qEqS (p.airport) (fv)) ?_
  refine xB 1 [] [(2, Value.pointer (some a_fv_)), (3, Value.pointer (some a_fv__)), (4, vp b1 0), (10, vb (p.airport == fv))] ?_
  refine wpr_grp 10 [(3, Value.pointer (some a_fv__)), (4, vp b1 0), (15, vb ((p.airport == fv) && (p.kind == fv_)))] (fun hk4 => ?_) ?_
  · refine wpq_split 10 (b := (p.airport == fv)) (by kernel_rfl) (fun q2 => ?_) (fun q2 => ?_)
    · have q2p : p.airport = fv := eq_of_beq q2
      refine xB 2 [(6, 0)] [(2, Value.pointer (some a_fv_)), (3, Value.pointer (some a_fv__)), (4, vp b1 0), (10, vb true), (12, vy p.kind)] ?_
      refine xV (qLdP a_fv_ 0 hc_fv_) ?_
      refine xB 2 [] [(3, Value.pointer (some a_fv__)), (4, vp b1 0), (15, vb (p.kind == fv_))] ?_
      refine wpq_re 15 (v := vb (p.kind == fv_)) (Value.bool (((p.airport == fv) && (p.kind == fv_)))) (by kernel_rfl) (re_and1 q2) ?_
      exact wpq_sub _ (by kernel_rfl) hk4
    · have q2p : ¬ (p.airport = fv) := ne_of_beq_false_ q2
      refine xB 5 [] [(3, Value.pointer (some a_fv__)), (4, vp b1 0), (15, vb false)] ?_
      refine wpq_re 15 (v := vb false) (Value.bool (((p.airport == fv) && (p.kind == fv_)))) (by kernel_rfl) (re_and0 q2) ?_
      exact wpq_sub _ (by kernel_rfl) hk4
  · refine xB 1 [] [(3, Value.pointer (some a_fv__)), (4, vp b1 0), (16, vb ((p.airport == fv) && (p.kind == fv_)))] ?_
    refine wpr_grp 16 [(21, vb (((p.airport == fv) && (p.kind == fv_)) && (p.name == fv__)))] (fun hk10 => ?_) ?_
    · refine wpq_split 16 (b := ((p.airport == fv) && (p.kind == fv_))) (by kernel_rfl) (fun q3 => ?_) (fun q3 => ?_)
      · have q3l := (and_true_ q3).1
        have q3r := (and_true_ q3).2
        have q3lp : p.airport = fv := eq_of_beq q3l
        have q3rp : p.kind = fv_ := eq_of_beq q3r
        refine xB 2 [(12, 0)] [(3, Value.pointer (some a_fv__)), (16, vb true), (18, vt p.name)] ?_
        refine xV (qLdP a_fv__ 0 hc_fv__) ?_
        refine xV (qEqS (p.name) (fv__)) ?_
        refine xB 1 [] [(21, vb (p.name == fv__))] ?_
        refine wpq_re 21 (v := vb (p.name == fv__)) (Value.bool ((((p.airport == fv) && (p.kind == fv_)) && (p.name == fv__)))) (by kernel_rfl) (re_and1 q3) ?_
        exact wpq_sub _ (by kernel_rfl) hk10
      · refine xB 5 [] [(21, vb false)] ?_
        refine wpq_re 21 (v := vb false) (Value.bool ((((p.airport == fv) && (p.kind == fv_)) && (p.name == fv__)))) (by kernel_rfl) (re_and0 q3) ?_
        exact wpq_sub _ (by kernel_rfl) hk10
    · refine xB 1 [] [(5, vb (((p.airport == fv) && (p.kind == fv_)) && (p.name == fv__)))] ?_
      refine xRe ?_
      refine wpq_then ?_
      have eS := hS.symm
      subst eS
      exact xRet [] [5] (Gh.le.refl _) ⟨by kernel_rfl, by kernel_rfl⟩ (fun _ _ h => h)

def o54f55_L0 (s : List Proc) (fc : List UInt8) (fc_ : Int) (fc__ : List UInt8) (s6 : Nat) : Option (Ctl (Nat) (Ctl (Unit) (Int))) :=
  (cond (decide (((s6 : Nat) : Int) < (((s).length : Nat) : Int))) (letJ (τ := Bool) (o55 (List.getD s s6 default) fc (fc_ : Int) fc__) fun y12 => (cond (y12) (some (Ctl.done (Ctl.done ((((s6 : Nat) : Int) : Int))))) (grd (decide (((s6 : Nat) : Int) + 1 ≤ 9223372036854775807)) (some (Ctl.go (s6 + 1)))))) (some (Ctl.done (Ctl.go ()))))
def o54f55 (s : List Proc) (fc : List UInt8) (fc_ : Int) (fc__ : List UInt8) : Option (Int) :=
  (joinO (τ := Unit) (ρ := Int) (loopO (σ := Nat) (ρ := Ctl (Unit) (Int)) fuelN (o54f55_L0 s fc fc_ fc__) (0)) fun t1 => (some ((-1 : Int))))
set_option maxRecDepth 100000 in
theorem C54f55 (g : Gh) (s : List Proc) (As : Option Addr) (cs : Nat) (a_fc : Addr) (fc : List UInt8) (a_fc_ : Addr) (fc_ : Int) (a_fc__ : Addr) (fc__ : List UInt8) (fs : Arr g.r tyProc As cs s) (hc_fc : Cells g.r a_fc [vt fc]) (hc_fc_ : Cells g.r a_fc_ [vy fc_]) (hc_fc__ : Cells g.r a_fc__ [vt fc__]) {r : Int} (hS : o54f55 s fc fc_ fc__ = some r) :
    Ctr Tryd.prog 54 [vs As s cs, Value.func (.func 55) #[] #[Value.pointer (some a_fc), Value.pointer (some a_fc_), Value.pointer (some a_fc__)]] g [] (fun v ψ o => v = vi r ∧ o = []) := by
  unfold o54f55 at hS
  refine xFn Tryd.f54 (Tryd.f54.body.getD .skip) 19 ?_
  have nfs := fs.len
  refine xSq ?_
  refine xRg ?_
  refine xB 1 [] [(0, vs As s cs), (1, Value.func (.func 55) #[] #[Value.pointer (some a_fc), Value.pointer (some a_fc_), Value.pointer (some a_fc__)])] ?_
  refine xRe ?_
  refine wpq_then ?_
  refine xSq ?_
  refine xSq ?_
  refine xRg ?_
  refine xB 3 [] [(0, vs As s cs), (1, Value.func (.func 55) #[] #[Value.pointer (some a_fc), Value.pointer (some a_fc_), Value.pointer (some a_fc__)]), (7, vi (((s).length : Nat) : Int)), (8, vi 0)] ?_
  refine xRe ?_
  refine wpq_then ?_
  refine xJoinO hS (fun g own sl t1 => own = [] ∧ sl = []) ?_ ?_
  · rintro g2 _ _ t1 e3 ⟨rfl, rfl⟩ hS
    refine wpq_then ?_
    refine xSq ?_
    refine xRg ?_
    refine xB 1 [] [(4, vi (-1))] ?_
    refine xRe ?_
    refine wpq_then ?_
    have eS := (Option.some.inj hS).symm
    subst eS
    exact xRet [] [4] e3 ⟨by kernel_rfl, by kernel_rfl⟩ (fun _ _ h => h)
  · intro uu1 hS hN1 hD1
    refine xBl 0 ?_
    refine xSub [(0, vs As s cs), (1, Value.func (.func 55) #[] #[Value.pointer (some a_fc), Value.pointer (some a_fc_), Value.pointer (some a_fc__)]), (7, vi (((s).length : Nat) : Int)), (8, vi 0)] ?_
    refine xLo hS (fun g own sl s6 => own = [] ∧ sl = [(0, vs As s cs), (1, Value.func (.func 55) #[] #[Value.pointer (some a_fc), Value.pointer (some a_fc_), Value.pointer (some a_fc__)]), (7, vi (((s).length : Nat) : Int)), (8, vi ((s6 : Nat) : Int))]) ⟨by kernel_rfl, by kernel_rfl⟩ ?_
    rintro g7 _ _ s6 uu6 e8 ⟨rfl, rfl⟩ hS Qr6 hN6 hD6
    unfold o54f55_L0 at hS
    refine xSq ?_
    refine xRg ?_
    refine xB 1 [] [(0, vs As s cs), (1, Value.func (.func 55) #[] #[Value.pointer (some a_fc), Value.pointer (some a_fc_), Value.pointer (some a_fc__)]), (7, vi (((s).length : Nat) : Int)), (8, vi ((s6 : Nat) : Int)), (9, vb (decide (((s6 : Nat) : Int) < (((s).length : Nat) : Int))))] ?_
    refine xRe ?_
    refine wpq_then ?_
    refine xSq ?_
    refine xCd (decide (((s6 : Nat) : Int) < (((s).length : Nat) : Int))) (fun h9 => ?_) (fun h9 => ?_)
    · have hS := cond_T h9 hS
      have h9p := of_decide_eq_true h9
      refine xSk ?_
      refine wpq_then ?_
      refine xSub [(0, vs As s cs), (1, Value.func (.func 55) #[] #[Value.pointer (some a_fc), Value.pointer (some a_fc_), Value.pointer (some a_fc__)]), (7, vi (((s).length : Nat) : Int)), (8, vi ((s6 : Nat) : Int))] ?_
      refine xSq ?_
      refine xBl 1 ?_
      refine xSq ?_
      refine xRg ?_
      refine xB 2 [] [(0, vs As s cs), (1, Value.func (.func 55) #[] #[Value.pointer (some a_fc), Value.pointer (some a_fc_), Value.pointer (some a_fc__)]), (5, vi ((s6 : Nat) : Int)), (7, vi (((s).length : Nat) : Int)), (8, vi ((s6 : Nat) : Int))] ?_
      refine xRe ?_
      refine wpq_then ?_
      refine xSq ?_
      refine xRg ?_
      have fs := fs.mono e8.r
      have i11 : s6 < (s).length := by omega
      obtain ⟨ad10, cs10, hA10, hr10, hc10⟩ := fs.at_ (get_getD (d := default) i11)
      obtain ⟨A10_parts, c10_parts, rfl, f10_parts⟩ := hr10
      have nf10_parts := f10_parts.len
      refine xB 3 [] [(0, vs As s cs), (1, Value.func (.func 55) #[] #[Value.pointer (some a_fc), Value.pointer (some a_fc_), Value.pointer (some a_fc__)]), (5, vi ((s6 : Nat) : Int)), (7, vi (((s).length : Nat) : Int)), (8, vi ((s6 : Nat) : Int)), (11, Value.func (.func 55) #[] #[Value.pointer (some a_fc), Value.pointer (some a_fc_), Value.pointer (some a_fc__)]), (12, vs As s cs), (13, vi ((s6 : Nat) : Int))] ?_
      refine xV (qIx s6 4 hA10 rfl i11) ?_
      refine xV (qLdP (Addr.add ad10 (s6 * 4)) 0 hc10) ?_
      have hc_fc := hc_fc.mono e8.r
      have hc_fc_ := hc_fc_.mono e8.r
      have hc_fc__ := hc_fc__.mono e8.r
      obtain ⟨y12, hy12, hS⟩ := letJ_T hS
      refine xE (eC 0 (fun g' lr eb ln => C55 g' (List.getD s s6 default) A10_parts c10_parts a_fc fc a_fc_ (fc_ : Int) a_fc__ fc__ (f10_parts.mono lr) (hc_fc.mono lr) (hc_fc_.mono lr) (hc_fc__.mono lr) hy12)) ?_
      rintro _ g13 _ e14 ⟨_, rfl, rfl, rfl⟩
      refine xRe ?_
      refine wpq_then ?_
      refine xSub [(0, vs As s cs), (1, Value.func (.func 55) #[] #[Value.pointer (some a_fc), Value.pointer (some a_fc_), Value.pointer (some a_fc__)]), (5, vi ((s6 : Nat) : Int)), (7, vi (((s).length : Nat) : Int)), (8, vi ((s6 : Nat) : Int)), (16, vb y12)] ?_
      refine xCd (y12) (fun h15 => ?_) (fun h15 => ?_)
      · have hS := cond_T h15 hS
        refine xSq ?_
        refine xRg ?_
        refine xB 2 [] [(4, vi ((s6 : Nat) : Int))] ?_
        refine xRe ?_
        refine wpq_then ?_
        have eS := (Option.some.inj hS).symm
        have eS := (hD6 _ eS).symm
        have eS := (hD1 _ eS).symm
        subst eS
        exact xRet [] [4] (e8.trans e14) ⟨by kernel_rfl, by kernel_rfl⟩ (fun _ _ h => h)
      · have hS := cond_F h15 hS
        refine xSk ?_
        refine wpq_blockN ?_
        refine wpq_then ?_
        refine xSub [(0, vs As s cs), (1, Value.func (.func 55) #[] #[Value.pointer (some a_fc), Value.pointer (some a_fc_), Value.pointer (some a_fc__)]), (7, vi (((s).length : Nat) : Int)), (8, vi ((s6 : Nat) : Int))] ?_
        refine xRg ?_
        obtain ⟨q16, hS⟩ := grd_T hS
        have q16p := of_decide_eq_true q16
        refine xV (qAdd .i64 (((s6 : Nat) : Int)) (1) (wr64 (by omega))) ?_
        refine xB 1 [] [(0, vs As s cs), (1, Value.func (.func 55) #[] #[Value.pointer (some a_fc), Value.pointer (some a_fc_), Value.pointer (some a_fc__)]), (7, vi (((s).length : Nat) : Int)), (8, vi (((s6 : Nat) : Int) + 1))] ?_
        refine xRe ?_
        refine wpq_thenN ?_
        refine xSub [(0, vs As s cs), (1, Value.func (.func 55) #[] #[Value.pointer (some a_fc), Value.pointer (some a_fc_), Value.pointer (some a_fc__)]), (7, vi (((s).length : Nat) : Int)), (8, vi (((s6 : Nat) : Int) + 1))] ?_
        have eS := (Option.some.inj hS).symm
        exact hN6 _ eS _ _ _ e14 ⟨by kernel_rfl, by kernel_rfl⟩
    · have hS := cond_F h9 hS
      have h9p := of_decide_eq_false h9
      refine xEx 0 ?_
      refine wpq_thenX ?_
      refine wpq_thenX ?_
      refine wpq_blockE ?_
      refine xSub [] ?_
      have eS := (Option.some.inj hS).symm
      have eS := (hD6 _ eS).symm
      exact hN1 _ eS _ _ _ e8 ⟨by kernel_rfl, by kernel_rfl⟩

def o56 (s : List Part) : Option ((List Part)) :=
  (grd (decide ((0 + (s).length) * 48 ≤ 140737488355328)) (some ((s : List Part))))
set_option maxRecDepth 100000 in
theorem C56 (g : Gh) (s : List Part) (As : Option Addr) (cs : Nat) (fs : ArrM g.r g.b tyPart As cs s) {r : (List Part)} (hS : o56 s = some r) :
    Ctr Tryd.prog 56 [vs As s cs] g [] (fun v ψ o => ∃ (Ar_0 : Option Addr) (cr_0 : Nat) (kr_0 : Option Bk), v = vs Ar_0 r cr_0 ∧ o = [kr_0] ∧ Buf ψ tyPart 35 (.slice Ar_0 (r).length cr_0) kr_0 r) := by
  unfold o56 at hS
  refine xFn Tryd.f56 (Tryd.f56.body.getD .skip) 8 ?_
  have nfs := fs.len
  refine xSq ?_
  refine xRg ?_
  refine xB 1 [] [(0, vs As s cs)] ?_
  refine xRe ?_
  refine wpq_then ?_
  refine xSq ?_
  refine xSq ?_
  refine xRg ?_
  refine xB 1 [] [(0, vs As s cs), (3, vs As s cs)] ?_
  refine xV (qNil As) ?_
  refine xRe ?_
  refine wpq_then ?_
  refine xSub [(0, vs As s cs), (4, vb (Option.isNone As))] ?_
  refine xCd ((Option.isNone As)) (fun h1 => ?_) (fun h1 => ?_)
  · have hsh1 := fs.nil_of h1
    subst hsh1
    refine xSq ?_
    refine xRg ?_
    refine xB 1 [] [(2, Value.slice none 0 0)] ?_
    refine xRe ?_
    refine wpq_then ?_
    have eS : r = ([] : List Part) := by first | exact hS.symm | exact hS | (simp [grd] at hS; first | exact hS.symm | exact hS)
    subst eS
    exact xRet [none] [2] (Gh.le.refl _) ⟨none, 0, none, by kernel_rfl, by kernel_rfl, Buf.nil⟩ (fun _ _ h => h)
  · refine xSk ?_
    refine wpq_then ?_
    refine xSub [(0, vs As s cs)] ?_
    refine xSq ?_
    refine xRg ?_
    refine xE (eBs (T := tyPart) (p := g.b) (et := 35) (xs := ([] : List Part)) reps_nil (by simp)) ?_
    rintro _ _ _ - ⟨A2, c2, k2, rfl, rfl, rfl, h2⟩
    refine xB 1 [] [(5, vs A2 ([] : List Part) c2), (6, vs As s cs)] ?_
    obtain ⟨nw3, hp3, hs3⟩ := fs.srcM
    obtain ⟨q4, hS⟩ := grd_T hS
    have q4p := of_decide_eq_true q4
    refine xE (eApp (T := tyPart) (p := g.b) (et := 35) (bytes := 48) (xs := ([] : List Part)) (ys := (s : List Part)) 0 h2 rfl (fun w hs => hs3 w _ hs) hp3 (by first | omega | (simp only [List.length_cons, List.length_nil] at *; omega)) (by first | omega | (simp only [List.length_cons, List.length_nil] at *; omega))) ?_
    rintro _ _ _ - ⟨A3, c3, k3, rfl, rfl, rfl, h3⟩
    have h3 : Buf g.b tyPart 35 (.slice A3 ((s : List Part)).length c3) k3 (s : List Part) := h3
    have nh3 := h3.len
    refine xB 1 [] [(2, vs A3 s c3)] ?_
    refine xRe ?_
    refine wpq_then ?_
    have eS := (Option.some.inj hS).symm
    subst eS
    exact xRet [some 0] [2] (Gh.le.refl _) ⟨A3, c3, k3, by kernel_rfl, by kernel_rfl, h3⟩ (fun _ _ h => h)

def o31_L0 (y13 : (List Part)) (s24 : Nat × (List Part)) : Option (Ctl (Nat × (List Part)) ((List Part))) :=
  (cond (decide (((s24.1 : Nat) : Int) < (((y13).length : Nat) : Int))) (grd (decide (s24.1 < (s24.2).length)) (bindO (τ := (List Leg)) (o41 ((List.getD s24.2 s24.1 default).legs : List Leg)) fun y30 => (grd (decide (s24.1 < (s24.2).length)) (grd (decide (((s24.1 : Nat) : Int) + 1 ≤ 9223372036854775807)) (some (Ctl.go ((s24.1 + 1), ((List.set s24.2 s24.1 ({ (List.getD s24.2 s24.1 default) with legs := y30 })) : List Part)))))))) (some (Ctl.done ((s24.2 : List Part)))))
def o31 (l : List Proc) (airport : List UInt8) (k : Int) (name : List UInt8) : Option (Proc × Bool) :=
  (bindO (τ := Int) (o54f55 (l : List Proc) airport (k : Int) name) fun y5 => (cond (decide (y5 < 0)) (some (((⟨([] : List UInt8), ([] : List UInt8), 0, ([] : List Part)⟩ : Proc), (false)))) (grd (decide (0 ≤ y5 ∧ y5 < (((l).length : Nat) : Int))) (bindO (τ := (List Part)) (o56 ((List.getD l (y5).toNat default).parts : List Part)) fun y13 => (bindO (τ := (List Part)) (loopO (σ := Nat × (List Part)) (ρ := (List Part)) fuelN (o31_L0 y13) (0, (y13 : List Part))) fun t16 => (some ((({ (List.getD l (y5).toNat default) with parts := t16 }), (true)))))))))
set_option maxRecDepth 100000 in
theorem C31 (g : Gh) (l : List Proc) (Al : Option Addr) (cl : Nat) (airport : List UInt8) (k : Int) (name : List UInt8) (fl : ArrM g.r g.b tyProc Al cl l) {r : Proc × Bool} (hS : o31 l airport k name = some r) :
    Ctr Tryd.prog 31 [vs Al l cl, vt airport, vy k, vt name] g [] (fun v ψ o => ∃ (Ar_0_parts : Option Addr) (cr_0_parts : Nat), v = Value.tuple #[Value.agg #[vt r.1.airport, vt r.1.name, vy r.1.kind, vs Ar_0_parts r.1.parts cr_0_parts], vb r.2] ∧ o = [] ∧ Arr ψ tyPart Ar_0_parts cr_0_parts r.1.parts) := by
  unfold o31 at hS
  refine xFn Tryd.f31 (Tryd.f31.body.getD .skip) 47 ?_
  have nfl := fl.len
  refine xSq ?_
  refine xRg ?_
  refine xE eB ?_
  rintro _ _ _ - ⟨b1, rfl, rfl, rfl⟩
  refine xE eB ?_
  rintro _ _ _ - ⟨b2, rfl, rfl, rfl⟩
  refine xE eB ?_
  rintro _ _ _ - ⟨b3, rfl, rfl, rfl⟩
  refine xE eB ?_
  rintro _ _ _ - ⟨b4, rfl, rfl, rfl⟩
  refine xB 1 [] [(0, vs Al l cl), (5, vp b1 0), (6, vp b2 0), (7, vp b3 0), (8, vp b4 0)] ?_
  refine xRe ?_
  refine wpq_then ?_
  refine xSq ?_
  refine xRg ?_
  refine xB 2 [] [(0, vs Al l cl), (8, vp b4 0), (13, vs Al l cl), (14, Value.func (.func 55) #[] #[vp b1 0, vp b2 0, vp b3 0])] ?_
  obtain ⟨y5, hy5, hS⟩ := bindO_T hS
  refine xE (eC 0 (fun g' lr eb ln => C54f55 g' (l : List Proc) Al cl ⟨b1, 0, none⟩ airport ⟨b2, 0, none⟩ (k : Int) ⟨b3, 0, none⟩ name ((fl.toArr g.br).mono lr) (cells_lent' 3 b1 0 [vt airport] ln) (cells_lent' 2 b2 0 [vy k] ln) (cells_lent' 1 b3 0 [vt name] ln) hy5)) ?_
  rintro _ g6 _ e7 ⟨_, rfl, rfl, rfl⟩
  refine xB 1 [] [(0, vs Al l cl), (8, vp b4 0), (10, vi y5)] ?_
  refine xRe ?_
  refine wpq_then ?_
  refine xSq ?_
  refine xSq ?_
  refine xRg ?_
  refine xB 2 [] [(0, vs Al l cl), (8, vp b4 0), (10, vi y5), (17, vb (decide (y5 < 0)))] ?_
  refine xRe ?_
  refine wpq_then ?_
  refine xCd (decide (y5 < 0)) (fun h8 => ?_) (fun h8 => ?_)
  · have hS := cond_T h8 hS
    have h8p := of_decide_eq_true h8
    refine xSq ?_
    refine xRg ?_
    refine xBo 3 [(1, 0)] [some ⟨b4, 25, (cProc (⟨([] : List UInt8), ([] : List UInt8), 0, ([] : List Part)⟩ : Proc) none 0)⟩, some ⟨b3, 9, [vt name]⟩, some ⟨b2, 22, [vy k]⟩, some ⟨b1, 9, [vt airport]⟩] [(8, vp b4 0), (9, vb false)] ?_
    refine xRe ?_
    refine wpq_then ?_
    have eS := (Option.some.inj hS).symm
    subst eS
    exact xRetC [] [(8, 0)] e7 ⟨none, 0, by kernel_rfl, by kernel_rfl, Arr.nil⟩ (fun _ _ h => h)
  · have hS := cond_F h8 hS
    have h8p := of_decide_eq_false h8
    refine xSk ?_
    refine wpq_then ?_
    refine xSub [(0, vs Al l cl), (8, vp b4 0), (10, vi y5)] ?_
    refine xSq ?_
    refine xRg ?_
    have fl := fl.mono e7.r e7.b
    obtain ⟨q10, hS⟩ := grd_T hS
    have q10p := of_decide_eq_true q10
    have i11 : (y5).toNat < (l).length := by omega
    obtain ⟨ad9, cs9, hA9, hr9, hc9⟩ := fl.at_ (get_getD (d := default) i11)
    obtain ⟨A9_parts, c9_parts, rfl, f9_parts⟩ := hr9
    have nf9_parts := f9_parts.len
    refine xB 2 [] [(8, vp b4 0), (19, vs Al l cl), (20, vi y5)] ?_
    refine xV (qIx (y5).toNat 4 hA9 (show (y5 : Int) = _ from by omega) i11) ?_
    refine xV (qLdP (Addr.add ad9 ((y5).toNat * 4)) 0 hc9) ?_
    refine xE eB ?_
    rintro _ _ _ - ⟨b12, rfl, rfl, rfl⟩
    refine xBo 1 [(5, 0)] [some ⟨b12, 25, (cProc (List.getD l (y5).toNat default) A9_parts c9_parts)⟩, some ⟨b4, 25, (cProc (⟨([] : List UInt8), ([] : List UInt8), 0, ([] : List Part)⟩ : Proc) none 0)⟩, some ⟨b3, 9, [vt name]⟩, some ⟨b2, 22, [vy k]⟩, some ⟨b1, 9, [vt airport]⟩] [(8, vp b4 0), (11, vp b12 0)] ?_
    refine xRe ?_
    refine wpq_then ?_
    refine xSq ?_
    refine xRg ?_
    refine xB 2 [(1, 0)] [(8, vp b4 0), (11, vp b12 0), (24, vs A9_parts ((List.getD l (y5).toNat default).parts) c9_parts)] ?_
    obtain ⟨y13, hy13, hS⟩ := bindO_T hS
    refine xE (eC 0 (fun g' lr eb ln => C56 g' ((List.getD l (y5).toNat default).parts : List Part) A9_parts c9_parts (ArrM.lent (f9_parts.toM g6.br) lr eb) hy13)) ?_
    rintro _ g14 _ e15 ⟨_, rfl, A13_0, c13_0, k13_0, rfl, rfl, h13_0⟩
    have nh13_0 := h13_0.len
    refine xBo 2 [(4, 1)] [k13_0, some ⟨b12, 25, (cProc ({ (List.getD l (y5).toNat default) with parts := y13 }) A13_0 c13_0)⟩, some ⟨b4, 25, (cProc (⟨([] : List UInt8), ([] : List UInt8), 0, ([] : List Part)⟩ : Proc) none 0)⟩, some ⟨b3, 9, [vt name]⟩, some ⟨b2, 22, [vy k]⟩, some ⟨b1, 9, [vt airport]⟩] [(8, vp b4 0), (11, vp b12 0)] ?_
    refine xRe ?_
    refine wpq_then ?_
    refine xSq ?_
    refine xSq ?_
    refine xRg ?_
    refine xB 4 [(1, 1)] [(8, vp b4 0), (11, vp b12 0), (29, vi (((y13).length : Nat) : Int)), (30, vi 0)] ?_
    refine xRe ?_
    refine wpq_then ?_
    refine xBindO hS (fun g own sl t16 => ∃ (k16_0 : Option Bk), own = [some ⟨b12, 25, (cProc ({ (List.getD l (y5).toNat default) with parts := t16 }) A13_0 c13_0)⟩, some ⟨b4, 25, (cProc (⟨([] : List UInt8), ([] : List UInt8), 0, ([] : List Part)⟩ : Proc) none 0)⟩, k16_0] ∧ sl = [(8, vp b4 0), (11, vp b12 0)] ∧ Buf g.b tyPart 35 (.slice A13_0 (t16).length c13_0) k16_0 t16) ?_ ?_
    · rintro g17 _ _ t16 e18 ⟨k16_0, rfl, rfl, h16_0⟩ hS
      have nh16_0 := h16_0.len
      refine wpq_then ?_
      refine xSq ?_
      refine xRg ?_
      refine xBo 3 [(0, 0), (1, 1)] [some ⟨b12, 25, (cProc ({ (List.getD l (y5).toNat default) with parts := t16 }) A13_0 c13_0)⟩, some ⟨b4, 25, (cProc ({ (List.getD l (y5).toNat default) with parts := t16 }) A13_0 c13_0)⟩, k16_0] [(8, vp b4 0), (9, vb true)] ?_
      refine xRe ?_
      refine wpq_then ?_
      refine wpq_freeze 2 (by kernel_rfl) h16_0 (fun g19 e20 f21 => ?_)
      have eS := (Option.some.inj hS).symm
      subst eS
      exact xRetC [] [(8, 1)] (e7.trans (e15.trans (e18.trans e20))) ⟨A13_0, c13_0, by kernel_rfl, by kernel_rfl, f21⟩ (fun _ _ h => h)
    · intro uu16 hS hN16
      refine xBl 0 ?_
      refine xSel [some 1, some 2, some 0] ?_
      refine xSub [(8, vp b4 0), (11, vp b12 0), (29, vi (((y13).length : Nat) : Int)), (30, vi 0)] ?_
      refine xLo hS (fun g own sl s24 => ∃ (k24_1 : Option Bk), own = [some ⟨b12, 25, (cProc ({ (List.getD l (y5).toNat default) with parts := s24.2 }) A13_0 c13_0)⟩, some ⟨b4, 25, (cProc (⟨([] : List UInt8), ([] : List UInt8), 0, ([] : List Part)⟩ : Proc) none 0)⟩, k24_1] ∧ sl = [(8, vp b4 0), (11, vp b12 0), (29, vi (((y13).length : Nat) : Int)), (30, vi ((s24.1 : Nat) : Int))] ∧ Buf g.b tyPart 35 (.slice A13_0 (s24.2).length c13_0) k24_1 s24.2) ⟨k13_0, by kernel_rfl, by kernel_rfl, h13_0⟩ ?_
      rintro g25 _ _ s24 uu24 e26 ⟨k24_1, rfl, rfl, h24_1⟩ hS Qr24 hN24 hD24
      have nh24_1 := h24_1.len
      unfold o31_L0 at hS
      refine xSq ?_
      refine xRg ?_
      refine xB 1 [] [(8, vp b4 0), (11, vp b12 0), (29, vi (((y13).length : Nat) : Int)), (30, vi ((s24.1 : Nat) : Int)), (31, vb (decide (((s24.1 : Nat) : Int) < (((y13).length : Nat) : Int))))] ?_
      refine xRe ?_
      refine wpq_then ?_
      refine xSq ?_
      refine xCd (decide (((s24.1 : Nat) : Int) < (((y13).length : Nat) : Int))) (fun h27 => ?_) (fun h27 => ?_)
      · have hS := cond_T h27 hS
        have h27p := of_decide_eq_true h27
        refine xSk ?_
        refine wpq_then ?_
        refine xSub [(8, vp b4 0), (11, vp b12 0), (29, vi (((y13).length : Nat) : Int)), (30, vi ((s24.1 : Nat) : Int))] ?_
        refine xSq ?_
        refine xBl 1 ?_
        refine xSq ?_
        refine xRg ?_
        refine xB 2 [] [(8, vp b4 0), (11, vp b12 0), (12, vi ((s24.1 : Nat) : Int)), (29, vi (((y13).length : Nat) : Int)), (30, vi ((s24.1 : Nat) : Int))] ?_
        refine xRe ?_
        refine wpq_then ?_
        refine xDr 0 [1, 4, 8] [12, 10, 11] [some ⟨b12, 25, (cProc ({ (List.getD l (y5).toNat default) with parts := s24.2 }) A13_0 c13_0)⟩, some ⟨b4, 25, (cProc (⟨([] : List UInt8), ([] : List UInt8), 0, ([] : List Part)⟩ : Proc) none 0)⟩, k24_1] 13 (fun RG => ?_) (fun _ _ _ _ _ h => h)
        obtain ⟨q29, hS⟩ := grd_T hS
        have q29p := of_decide_eq_true q29
        obtain ⟨kc28, cs28, hA28, hk28, hr28, hw28⟩ := h24_1.open_ q29p default
        obtain ⟨kb28, rfl⟩ : ∃ z, z = kc28 := ⟨_, rfl⟩
        subst hk28
        obtain ⟨A28_legs, c28_legs, rfl, f28_legs⟩ := hr28
        have nf28_legs := f28_legs.len
        refine xT 7 [0, 1, 2, 3, 4, 5] [(1, 0), (4, 0)] [some 0, some 1, some 2] [(8, vp b4 0), (11, vp b12 0), (29, vi (((y13).length : Nat) : Int)), (30, vi ((s24.1 : Nat) : Int)), (34, vs A13_0 s24.2 c13_0), (35, vi ((s24.1 : Nat) : Int)), (37, vs A13_0 s24.2 c13_0), (38, vi ((s24.1 : Nat) : Int))] RG (Psi.le.refl _) ?_
        refine xTp 6 RG (fun _ => (qIxB s24.1 3 kb28.g hA28 rfl q29p)) ?_
        refine xT 5 [7] [] [some 0, some 1, some 2] [(8, vp b4 0), (11, vp b12 0), (29, vi (((y13).length : Nat) : Int)), (30, vi ((s24.1 : Nat) : Int)), (34, vs A13_0 s24.2 c13_0), (35, vi ((s24.1 : Nat) : Int)), (40, Value.pointer (some ⟨kb28.g, s24.1 * 3 + 2, none⟩))] RG (Psi.le.refl _) ?_
        refine xTv 8 [some 0, some 1, some 2] RG (Psi.le.refl _) (qLdB s24.1 3 2 2 hw28) ?_
        obtain ⟨y30, hy30, hS⟩ := bindO_T hS
        refine xO1 (lds := [1, 4, 8]) 9 ?_
        refine xIe (lds := [1, 4, 8]) (Psi.le.refl _) (eC 0 (fun g' lr eb ln => C41 g' ((List.getD s24.2 s24.1 default).legs : List Leg) A28_legs c28_legs (ArrM.lent (f28_legs.toM g25.br) lr eb) hy30)) ?_
        rintro _ g31 _ e32 ⟨_, rfl, A30_0, c30_0, k30_0, rfl, rfl, h30_0⟩
        refine kk [some 1, some 2, some 3] ?_
        have nh30_0 := h30_0.len
        have h24_1 := h24_1.mono e32.b
        obtain ⟨q34, hS⟩ := grd_T hS
        have q34p := of_decide_eq_true q34
        obtain ⟨kc33, cs33, hA33, hk33, hr33, hw33⟩ := h24_1.open_ q34p default
        cases hk33
        obtain ⟨A33_legs, c33_legs, rfl, f33_legs⟩ := hr33
        have nf33_legs := f33_legs.len
        refine xTp 10 RG (fun _ => (qIxB s24.1 3 kb28.g hA33 rfl q34p)) ?_
        refine xT 1 [11] [] [some 1, some 2, some 3] [(8, vp b4 0), (11, vp b12 0), (29, vi (((y13).length : Nat) : Int)), (30, vi ((s24.1 : Nat) : Int)), (42, vs A30_0 y30 c30_0), (44, Value.pointer (some ⟨kb28.g, s24.1 * 3 + 2, none⟩))] RG e32.r ?_
        refine wpq_freeze 0 (by kernel_rfl) h30_0 (fun g36 e37 f38 => ?_)
        have h24_1 := h24_1.mono e37.b
        refine xO1 (lds := [1, 4, 8]) 12 ?_
        refine xId (lds := [1, 4, 8]) (e32.trans e37).r (eStB s24.1 3 2 3 [vs A30_0 y30 c30_0] h24_1 rfl hw33 (show tyPart.rep _ _ ({ (List.getD s24.2 s24.1 default) with legs := y30 }) from ⟨A30_0, c30_0, rfl, f38⟩) q34p) ?_
        rintro _ _ _ - ⟨k35, rfl, rfl, h35⟩
        refine kf ?_
        have hz35 : (s24.2).length = ((List.set s24.2 s24.1 ({ (List.getD s24.2 s24.1 default) with legs := y30 }))).length := by simp
        refine xAe (lds := [1, 4, 8]) ?_
        refine wpq_blockN ?_
        refine wpq_then ?_
        refine xSub [(8, vp b4 0), (11, vp b12 0), (29, vi (((y13).length : Nat) : Int)), (30, vi ((s24.1 : Nat) : Int))] ?_
        refine xRg ?_
        obtain ⟨q39, hS⟩ := grd_T hS
        have q39p := of_decide_eq_true q39
        refine xV (qAdd .i64 (((s24.1 : Nat) : Int)) (1) (wr64 (by omega))) ?_
        refine xB 1 [] [(8, vp b4 0), (11, vp b12 0), (29, vi (((y13).length : Nat) : Int)), (30, vi (((s24.1 : Nat) : Int) + 1))] ?_
        refine xRe ?_
        refine wpq_thenN ?_
        refine xOwn [none, some ⟨b12, 25, [vt ((List.getD l (y5).toNat default).airport), vt ((List.getD l (y5).toNat default).name), vy ((List.getD l (y5).toNat default).kind), Value.slice A13_0 ((s24.2).length) c13_0]⟩, some ⟨b4, 25, (cProc (⟨([] : List UInt8), ([] : List UInt8), 0, ([] : List Part)⟩ : Proc) none 0)⟩, k35] ?_
        have h35 := Buf.re h35 hz35 (rfl : (List.set s24.2 s24.1 ({ (List.getD s24.2 s24.1 default) with legs := y30 })) = _)
        refine wpq_own [none, some ⟨b12, 25, (cProc ({ (List.getD l (y5).toNat default) with parts := (List.set s24.2 s24.1 ({ (List.getD s24.2 s24.1 default) with legs := y30 })) }) A13_0 c13_0)⟩, some ⟨b4, 25, (cProc (⟨([] : List UInt8), ([] : List UInt8), 0, ([] : List Part)⟩ : Proc) none 0)⟩, k35] (by rw [hz35]) ?_
        refine xSel [some 1, some 2, some 3] ?_
        refine xSub [(8, vp b4 0), (11, vp b12 0), (29, vi (((y13).length : Nat) : Int)), (30, vi (((s24.1 : Nat) : Int) + 1))] ?_
        have eS := (Option.some.inj hS).symm
        exact hN24 _ eS _ _ _ (e32.trans e37) ⟨k35, by kernel_rfl, by kernel_rfl, h35⟩
      · have hS := cond_F h27 hS
        have h27p := of_decide_eq_false h27
        refine xEx 0 ?_
        refine wpq_thenX ?_
        refine wpq_thenX ?_
        refine wpq_blockE ?_
        refine xSub [(8, vp b4 0), (11, vp b12 0)] ?_
        have eS := (Option.some.inj hS).symm
        have eS := (hD24 _ eS).symm
        exact hN16 _ eS _ _ _ e26 ⟨k24_1, by kernel_rfl, by kernel_rfl, h24_1⟩

def o32_L0 (l : List Proc) (airport : List UInt8) (k : Int) (name : List UInt8) (s7 : Nat) : Option (Ctl (Nat) (Ctl (Unit) (Proc × Bool))) :=
  (cond (decide (((s7 : Nat) : Int) < (((l).length : Nat) : Int))) (cond (((((List.getD l s7 default).airport == airport) && ((List.getD l s7 default).kind == k)) && ((List.getD l s7 default).name == name))) (some (Ctl.done (Ctl.done (((List.getD l s7 default), (true)))))) (grd (decide (((s7 : Nat) : Int) + 1 ≤ 9223372036854775807)) (some (Ctl.go (s7 + 1))))) (some (Ctl.done (Ctl.go ()))))
def o32 (l : List Proc) (airport : List UInt8) (k : Int) (name : List UInt8) : Option (Proc × Bool) :=
  (joinO (τ := Unit) (ρ := Proc × Bool) (loopO (σ := Nat) (ρ := Ctl (Unit) (Proc × Bool)) fuelN (o32_L0 l airport k name) (0)) fun t2 => (some (((⟨([] : List UInt8), ([] : List UInt8), 0, ([] : List Part)⟩ : Proc), (false)))))
set_option maxRecDepth 100000 in
theorem C32 (g : Gh) (l : List Proc) (Al : Option Addr) (cl : Nat) (airport : List UInt8) (k : Int) (name : List UInt8) (fl : Arr g.b tyProc Al cl l) {r : Proc × Bool} (hS : o32 l airport k name = some r) :
    Ctr Tryd.prog 32 [vs Al l cl, vt airport, vy k, vt name] g [] (fun v ψ o => ∃ (Ar_0_parts : Option Addr) (cr_0_parts : Nat), v = Value.tuple #[Value.agg #[vt r.1.airport, vt r.1.name, vy r.1.kind, vs Ar_0_parts r.1.parts cr_0_parts], vb r.2] ∧ o = [] ∧ Arr ψ tyPart Ar_0_parts cr_0_parts r.1.parts) := by
  unfold o32 at hS
  refine xFn Tryd.f32 (Tryd.f32.body.getD .skip) 37 ?_
  have nfl := fl.len
  refine xSq ?_
  refine xRg ?_
  refine xE eB ?_
  rintro _ _ _ - ⟨b1, rfl, rfl, rfl⟩
  refine xB 1 [] [(0, vs Al l cl), (1, vt airport), (2, vy k), (3, vt name), (8, vp b1 0)] ?_
  refine xRe ?_
  refine wpq_then ?_
  refine xSq ?_
  refine xSq ?_
  refine xRg ?_
  refine xB 3 [] [(1, vt airport), (2, vy k), (3, vt name), (8, vp b1 0), (12, vs Al l cl), (13, vi (((l).length : Nat) : Int)), (14, vi 0)] ?_
  refine xRe ?_
  refine wpq_then ?_
  refine xJoinO hS (fun g own sl t2 => own = [some ⟨b1, 25, (cProc (⟨([] : List UInt8), ([] : List UInt8), 0, ([] : List Part)⟩ : Proc) none 0)⟩] ∧ sl = [(8, vp b1 0)]) ?_ ?_
  · rintro g3 _ _ t2 e4 ⟨rfl, rfl⟩ hS
    refine wpq_then ?_
    refine xSq ?_
    refine xRg ?_
    refine xBo 3 [(1, 0)] [some ⟨b1, 25, (cProc (⟨([] : List UInt8), ([] : List UInt8), 0, ([] : List Part)⟩ : Proc) none 0)⟩] [(8, vp b1 0), (9, vb false)] ?_
    refine xRe ?_
    refine wpq_then ?_
    have eS := (Option.some.inj hS).symm
    subst eS
    exact xRetC [] [(8, 0)] e4 ⟨none, 0, by kernel_rfl, by kernel_rfl, Arr.nil⟩ (fun _ _ h => h)
  · intro uu2 hS hN2 hD2
    refine xBl 0 ?_
    refine xSub [(1, vt airport), (2, vy k), (3, vt name), (8, vp b1 0), (12, vs Al l cl), (13, vi (((l).length : Nat) : Int)), (14, vi 0)] ?_
    refine xLo hS (fun g own sl s7 => own = [some ⟨b1, 25, (cProc (⟨([] : List UInt8), ([] : List UInt8), 0, ([] : List Part)⟩ : Proc) none 0)⟩] ∧ sl = [(1, vt airport), (2, vy k), (3, vt name), (8, vp b1 0), (12, vs Al l cl), (13, vi (((l).length : Nat) : Int)), (14, vi ((s7 : Nat) : Int))]) ⟨by kernel_rfl, by kernel_rfl⟩ ?_
    rintro g8 _ _ s7 uu7 e9 ⟨rfl, rfl⟩ hS Qr7 hN7 hD7
    unfold o32_L0 at hS
    refine xSq ?_
    refine xRg ?_
    refine xB 1 [] [(1, vt airport), (2, vy k), (3, vt name), (8, vp b1 0), (12, vs Al l cl), (13, vi (((l).length : Nat) : Int)), (14, vi ((s7 : Nat) : Int)), (15, vb (decide (((s7 : Nat) : Int) < (((l).length : Nat) : Int))))] ?_
    refine xRe ?_
    refine wpq_then ?_
    refine xSq ?_
    refine xCd (decide (((s7 : Nat) : Int) < (((l).length : Nat) : Int))) (fun h10 => ?_) (fun h10 => ?_)
    · have hS := cond_T h10 hS
      have h10p := of_decide_eq_true h10
      refine xSk ?_
      refine wpq_then ?_
      refine xSub [(1, vt airport), (2, vy k), (3, vt name), (8, vp b1 0), (12, vs Al l cl), (13, vi (((l).length : Nat) : Int)), (14, vi ((s7 : Nat) : Int))] ?_
      refine xSq ?_
      refine xBl 1 ?_
      refine xSq ?_
      refine xRg ?_
      have fl := fl.mono e9.b
      have i12 : s7 < (l).length := by omega
      obtain ⟨ad11, cs11, hA11, hr11, hc11⟩ := fl.at_ (get_getD (d := default) i12)
      obtain ⟨A11_parts, c11_parts, rfl, f11_parts⟩ := hr11
      have nf11_parts := f11_parts.len
      refine xV (qIx s7 4 hA11 rfl i12) ?_
      refine xV (qLdP (Addr.add ad11 (s7 * 4)) 0 (hc11.mono g8.br)) ?_
      refine xE eB ?_
      rintro _ _ _ - ⟨b13, rfl, rfl, rfl⟩
      refine xBo 1 [(3, 0)] [some ⟨b13, 25, (cProc (List.getD l s7 default) A11_parts c11_parts)⟩, some ⟨b1, 25, (cProc (⟨([] : List UInt8), ([] : List UInt8), 0, ([] : List Part)⟩ : Proc) none 0)⟩] [(1, vt airport), (2, vy k), (3, vt name), (8, vp b1 0), (11, vp b13 0), (12, vs Al l cl), (13, vi (((l).length : Nat) : Int)), (14, vi ((s7 : Nat) : Int))] ?_
      refine xRe ?_
      refine wpq_then ?_
      refine xSq ?_
      refine xRg ?_
      refine xB 3 [(1, 0)] [(1, vt airport), (2, vy k), (3, vt name), (8, vp b1 0), (11, vp b13 0), (12, vs Al l cl), (13, vi (((l).length : Nat) : Int)), (14, vi ((s7 : Nat) : Int)), (19, vt ((List.getD l s7 default).airport)), (20, vt airport)] ?_
      refine xV (qEqS ((List.getD l s7 default).airport) (airport)) ?_
      refine xB 1 [] [(1, vt airport), (2, vy k), (3, vt name), (8, vp b1 0), (11, vp b13 0), (12, vs Al l cl), (13, vi (((l).length : Nat) : Int)), (14, vi ((s7 : Nat) : Int)), (22, vb ((List.getD l s7 default).airport == airport))] ?_
      refine wpr_grp 10 [(1, vt airport), (2, vy k), (3, vt name), (8, vp b1 0), (11, vp b13 0), (12, vs Al l cl), (13, vi (((l).length : Nat) : Int)), (14, vi ((s7 : Nat) : Int)), (27, vb (((List.getD l s7 default).airport == airport) && ((List.getD l s7 default).kind == k)))] (fun hk4 => ?_) ?_
      · refine wpq_split 22 (b := ((List.getD l s7 default).airport == airport)) (by kernel_rfl) (fun q14 => ?_) (fun q14 => ?_)
        · have q14p : (List.getD l s7 default).airport = airport := eq_of_beq q14
          refine xB 5 [(6, 0)] [(1, vt airport), (2, vy k), (3, vt name), (8, vp b1 0), (11, vp b13 0), (12, vs Al l cl), (13, vi (((l).length : Nat) : Int)), (14, vi ((s7 : Nat) : Int)), (27, vb ((List.getD l s7 default).kind == k))] ?_
          refine wpq_re 27 (v := vb ((List.getD l s7 default).kind == k)) (Value.bool ((((List.getD l s7 default).airport == airport) && ((List.getD l s7 default).kind == k)))) (by kernel_rfl) (re_and1 q14) ?_
          exact wpq_sub _ (by kernel_rfl) hk4
        · have q14p : ¬ ((List.getD l s7 default).airport = airport) := ne_of_beq_false_ q14
          refine xB 5 [] [(1, vt airport), (2, vy k), (3, vt name), (8, vp b1 0), (11, vp b13 0), (12, vs Al l cl), (13, vi (((l).length : Nat) : Int)), (14, vi ((s7 : Nat) : Int)), (27, vb false)] ?_
          refine wpq_re 27 (v := vb false) (Value.bool ((((List.getD l s7 default).airport == airport) && ((List.getD l s7 default).kind == k)))) (by kernel_rfl) (re_and0 q14) ?_
          exact wpq_sub _ (by kernel_rfl) hk4
      · refine xB 1 [] [(1, vt airport), (2, vy k), (3, vt name), (8, vp b1 0), (11, vp b13 0), (12, vs Al l cl), (13, vi (((l).length : Nat) : Int)), (14, vi ((s7 : Nat) : Int)), (28, vb (((List.getD l s7 default).airport == airport) && ((List.getD l s7 default).kind == k)))] ?_
        refine wpr_grp 16 [(1, vt airport), (2, vy k), (3, vt name), (8, vp b1 0), (11, vp b13 0), (12, vs Al l cl), (13, vi (((l).length : Nat) : Int)), (14, vi ((s7 : Nat) : Int)), (33, vb ((((List.getD l s7 default).airport == airport) && ((List.getD l s7 default).kind == k)) && ((List.getD l s7 default).name == name)))] (fun hk10 => ?_) ?_
        · refine wpq_split 28 (b := (((List.getD l s7 default).airport == airport) && ((List.getD l s7 default).kind == k))) (by kernel_rfl) (fun q15 => ?_) (fun q15 => ?_)
          · have q15l := (and_true_ q15).1
            have q15r := (and_true_ q15).2
            have q15lp : (List.getD l s7 default).airport = airport := eq_of_beq q15l
            have q15rp : (List.getD l s7 default).kind = k := eq_of_beq q15r
            refine xB 3 [(12, 0)] [(1, vt airport), (2, vy k), (3, vt name), (8, vp b1 0), (11, vp b13 0), (12, vs Al l cl), (13, vi (((l).length : Nat) : Int)), (14, vi ((s7 : Nat) : Int)), (28, vb true), (30, vt ((List.getD l s7 default).name)), (31, vt name)] ?_
            refine xV (qEqS ((List.getD l s7 default).name) (name)) ?_
            refine xB 1 [] [(1, vt airport), (2, vy k), (3, vt name), (8, vp b1 0), (11, vp b13 0), (12, vs Al l cl), (13, vi (((l).length : Nat) : Int)), (14, vi ((s7 : Nat) : Int)), (33, vb ((List.getD l s7 default).name == name))] ?_
            refine wpq_re 33 (v := vb ((List.getD l s7 default).name == name)) (Value.bool (((((List.getD l s7 default).airport == airport) && ((List.getD l s7 default).kind == k)) && ((List.getD l s7 default).name == name)))) (by kernel_rfl) (re_and1 q15) ?_
            exact wpq_sub _ (by kernel_rfl) hk10
          · refine xB 5 [] [(1, vt airport), (2, vy k), (3, vt name), (8, vp b1 0), (11, vp b13 0), (12, vs Al l cl), (13, vi (((l).length : Nat) : Int)), (14, vi ((s7 : Nat) : Int)), (33, vb false)] ?_
            refine wpq_re 33 (v := vb false) (Value.bool (((((List.getD l s7 default).airport == airport) && ((List.getD l s7 default).kind == k)) && ((List.getD l s7 default).name == name)))) (by kernel_rfl) (re_and0 q15) ?_
            exact wpq_sub _ (by kernel_rfl) hk10
        · refine xRe ?_
          refine wpq_then ?_
          refine xCd (((((List.getD l s7 default).airport == airport) && ((List.getD l s7 default).kind == k)) && ((List.getD l s7 default).name == name))) (fun h16 => ?_) (fun h16 => ?_)
          · have hS := cond_T h16 hS
            have h16l := (and_true_ h16).1
            have h16r := (and_true_ h16).2
            have h16ll := (and_true_ h16l).1
            have h16lr := (and_true_ h16l).2
            have h16llp : (List.getD l s7 default).airport = airport := eq_of_beq h16ll
            have h16lrp : (List.getD l s7 default).kind = k := eq_of_beq h16lr
            have h16rp : (List.getD l s7 default).name = name := eq_of_beq h16r
            refine xSq ?_
            refine xRg ?_
            refine xBo 3 [(0, 0), (1, 1)] [some ⟨b13, 25, (cProc (List.getD l s7 default) A11_parts c11_parts)⟩, some ⟨b1, 25, (cProc (List.getD l s7 default) A11_parts c11_parts)⟩] [(8, vp b1 0), (9, vb true)] ?_
            refine xRe ?_
            refine wpq_then ?_
            have eS := (Option.some.inj hS).symm
            have eS := (hD7 _ eS).symm
            have eS := (hD2 _ eS).symm
            subst eS
            exact xRetC [] [(8, 1)] e9 ⟨A11_parts, c11_parts, by kernel_rfl, by kernel_rfl, f11_parts⟩ (fun _ _ h => h)
          · have hS := cond_F h16 hS
            refine xSk ?_
            refine wpq_blockN ?_
            refine wpq_then ?_
            refine xSub [(1, vt airport), (2, vy k), (3, vt name), (8, vp b1 0), (12, vs Al l cl), (13, vi (((l).length : Nat) : Int)), (14, vi ((s7 : Nat) : Int))] ?_
            refine xRg ?_
            obtain ⟨q17, hS⟩ := grd_T hS
            have q17p := of_decide_eq_true q17
            refine xV (qAdd .i64 (((s7 : Nat) : Int)) (1) (wr64 (by omega))) ?_
            refine xB 1 [] [(1, vt airport), (2, vy k), (3, vt name), (8, vp b1 0), (12, vs Al l cl), (13, vi (((l).length : Nat) : Int)), (14, vi (((s7 : Nat) : Int) + 1))] ?_
            refine xRe ?_
            refine wpq_thenN ?_
            refine xSel [some 1] ?_
            refine xSub [(1, vt airport), (2, vy k), (3, vt name), (8, vp b1 0), (12, vs Al l cl), (13, vi (((l).length : Nat) : Int)), (14, vi (((s7 : Nat) : Int) + 1))] ?_
            have eS := (Option.some.inj hS).symm
            exact hN7 _ eS _ _ _ (Gh.le.refl _) ⟨by kernel_rfl, by kernel_rfl⟩
    · have hS := cond_F h10 hS
      have h10p := of_decide_eq_false h10
      refine xEx 0 ?_
      refine wpq_thenX ?_
      refine wpq_thenX ?_
      refine wpq_blockE ?_
      refine xSub [(8, vp b1 0)] ?_
      have eS := (Option.some.inj hS).symm
      have eS := (hD7 _ eS).symm
      exact hN2 _ eS _ _ _ e9 ⟨by kernel_rfl, by kernel_rfl⟩

def o19 (a : Part) (b : Part) : Option (Bool) :=
  (bindO (τ := Bool) (cond (((a.kind == b.kind) && (a.name == b.name))) (bindO (τ := Bool) (o20 (a.legs : List Leg) (b.legs : List Leg)) fun y8 => (some (y8))) (some (false))) fun t4 => (some ((t4))))
set_option maxRecDepth 100000 in
theorem C19 (g : Gh) (a : Part) (Aa_legs : Option Addr) (ca_legs : Nat) (b : Part) (Ab_legs : Option Addr) (cb_legs : Nat) (fa_legs : Arr g.r tyLeg Aa_legs ca_legs a.legs) (fb_legs : Arr g.r tyLeg Ab_legs cb_legs b.legs) {r : Bool} (hS : o19 a b = some r) :
    Ctr Tryd.prog 19 [Value.agg #[vy a.kind, vt a.name, vs Aa_legs a.legs ca_legs], Value.agg #[vy b.kind, vt b.name, vs Ab_legs b.legs cb_legs]] g [] (fun v ψ o => v = vb r ∧ o = []) := by
  unfold o19 at hS
  refine xFn Tryd.f19 (Tryd.f19.body.getD .skip) 24 ?_
  have nfa_legs := fa_legs.len
  have nfb_legs := fb_legs.len
  refine xSq ?_
  refine xRg ?_
  refine xE eB ?_
  rintro _ _ _ - ⟨b1, rfl, rfl, rfl⟩
  refine xE eB ?_
  rintro _ _ _ - ⟨b2, rfl, rfl, rfl⟩
  refine xB 1 [] [(2, vp b1 0), (3, vp b2 0)] ?_
  refine xRe ?_
  refine wpq_then ?_
  refine xSq ?_
  refine xRg ?_
  refine xB 6 [(1, 1), (3, 0)] [(2, vp b1 0), (3, vp b2 0), (10, vb (a.kind == b.kind))] ?_
  refine wpr_grp 12 [(2, vp b1 0), (3, vp b2 0), (16, vb ((a.kind == b.kind) && (a.name == b.name)))] (fun hk5 => ?_) ?_
  · refine wpq_split 10 (b := (a.kind == b.kind)) (by kernel_rfl) (fun q3 => ?_) (fun q3 => ?_)
    · have q3p : a.kind = b.kind := eq_of_beq q3
      refine xB 4 [(7, 1), (9, 0)] [(2, vp b1 0), (3, vp b2 0), (10, vb true), (12, vt a.name), (14, vt b.name)] ?_
      refine xV (qEqS (a.name) (b.name)) ?_
      refine xB 1 [] [(2, vp b1 0), (3, vp b2 0), (16, vb (a.name == b.name))] ?_
      refine wpq_re 16 (v := vb (a.name == b.name)) (Value.bool (((a.kind == b.kind) && (a.name == b.name)))) (by kernel_rfl) (re_and1 q3) ?_
      exact wpq_sub _ (by kernel_rfl) hk5
    · have q3p : ¬ (a.kind = b.kind) := ne_of_beq_false_ q3
      refine xB 6 [] [(2, vp b1 0), (3, vp b2 0), (16, vb false)] ?_
      refine wpq_re 16 (v := vb false) (Value.bool (((a.kind == b.kind) && (a.name == b.name)))) (by kernel_rfl) (re_and0 q3) ?_
      exact wpq_sub _ (by kernel_rfl) hk5
  · refine xB 1 [] [(2, vp b1 0), (3, vp b2 0), (17, vb ((a.kind == b.kind) && (a.name == b.name)))] ?_
    refine xGJo hS 19 (fun g own sl t4 => own = [] ∧ sl = [(23, vb t4)]) ?_ ?_
    · rintro g5 _ _ t4 e6 ⟨rfl, rfl⟩ hS
      refine xB 1 [] [(4, vb t4)] ?_
      refine xRe ?_
      refine wpq_then ?_
      have eS := (Option.some.inj hS).symm
      subst eS
      exact xRet [] [4] e6 ⟨by kernel_rfl, by kernel_rfl⟩ (fun _ _ h => h)
    · intro uu4 hS hN4
      refine wpq_split 17 (b := ((a.kind == b.kind) && (a.name == b.name))) (by kernel_rfl) (fun q7 => ?_) (fun q7 => ?_)
      · have hS := cond_T q7 hS
        have q7l := (and_true_ q7).1
        have q7r := (and_true_ q7).2
        have q7lp : a.kind = b.kind := eq_of_beq q7l
        have q7rp : a.name = b.name := eq_of_beq q7r
        refine xB 4 [(14, 1), (16, 0)] [(17, vb true), (19, vs Aa_legs a.legs ca_legs), (21, vs Ab_legs b.legs cb_legs)] ?_
        obtain ⟨y8, hy8, hS⟩ := bindO_T hS
        refine xE (eC 0 (fun g' lr eb ln => C20 g' (a.legs : List Leg) Aa_legs ca_legs (b.legs : List Leg) Ab_legs cb_legs (fa_legs.mono lr) (fb_legs.mono lr) hy8)) ?_
        rintro _ g9 _ e10 ⟨_, rfl, rfl, rfl⟩
        refine xB 1 [] [(23, vb y8)] ?_
        refine xSel [] ?_
        refine xSub [(23, vb y8)] ?_
        exact hN4 _ (Option.some.inj hS).symm _ _ _ e10 ⟨by kernel_rfl, by kernel_rfl⟩
      · have hS := cond_F q7 hS
        refine xB 6 [] [(23, vb false)] ?_
        refine xSel [] ?_
        refine xSub [(23, vb false)] ?_
        exact hN4 _ (Option.some.inj hS).symm _ _ _ (Gh.le.refl _) ⟨by kernel_rfl, by kernel_rfl⟩

def o33_L0 (p : Proc) (q : Proc) (s12 : Nat) : Option (Ctl (Nat) (Ctl (Unit) (Bool))) :=
  (cond (decide (((s12 : Nat) : Int) < (((p.parts).length : Nat) : Int))) (grd (decide (s12 < (q.parts).length)) (bindO (τ := Bool) (o19 (List.getD p.parts s12 default) (List.getD q.parts s12 default)) fun y20 => (cond ((!y20)) (some (Ctl.done (Ctl.done ((false))))) (grd (decide (((s12 : Nat) : Int) + 1 ≤ 9223372036854775807)) (some (Ctl.go (s12 + 1))))))) (some (Ctl.done (Ctl.go ()))))
def o33 (p : Proc) (q : Proc) : Option (Bool) :=
  (cond (((((!(p.airport == q.airport)) || (!(p.name == q.name))) || (p.kind != q.kind)) || ((((p.parts).length : Nat) : Int) != (((q.parts).length : Nat) : Int)))) (some ((false))) (joinO (τ := Unit) (ρ := Bool) (loopO (σ := Nat) (ρ := Ctl (Unit) (Bool)) fuelN (o33_L0 p q) (0)) fun t7 => (some ((true)))))
set_option maxRecDepth 100000 in
theorem C33 (g : Gh) (p : Proc) (Ap_parts : Option Addr) (cp_parts : Nat) (q : Proc) (Aq_parts : Option Addr) (cq_parts : Nat) (fp_parts : Arr g.r tyPart Ap_parts cp_parts p.parts) (fq_parts : Arr g.r tyPart Aq_parts cq_parts q.parts) {r : Bool} (hS : o33 p q = some r) :
    Ctr Tryd.prog 33 [Value.agg #[vt p.airport, vt p.name, vy p.kind, vs Ap_parts p.parts cp_parts], Value.agg #[vt q.airport, vt q.name, vy q.kind, vs Aq_parts q.parts cq_parts]] g [] (fun v ψ o => v = vb r ∧ o = []) := by
  unfold o33 at hS
  refine xFn Tryd.f33 (Tryd.f33.body.getD .skip) 53 ?_
  have nfp_parts := fp_parts.len
  have nfq_parts := fq_parts.len
  refine xSq ?_
  refine xRg ?_
  refine xE eB ?_
  rintro _ _ _ - ⟨b1, rfl, rfl, rfl⟩
  refine xE eB ?_
  rintro _ _ _ - ⟨b2, rfl, rfl, rfl⟩
  refine xB 1 [] [(2, vp b1 0), (3, vp b2 0)] ?_
  refine xRe ?_
  refine wpq_then ?_
  refine xSq ?_
  refine xSq ?_
  refine xRg ?_
  refine xB 4 [(1, 1), (3, 0)] [(2, vp b1 0), (3, vp b2 0), (7, vt p.airport), (9, vt q.airport)] ?_
  refine xV (qNeS (p.airport) (q.airport)) ?_
  refine xB 1 [] [(2, vp b1 0), (3, vp b2 0), (11, vb (!(p.airport == q.airport)))] ?_
  refine wpr_grp 12 [(2, vp b1 0), (3, vp b2 0), (17, vb ((!(p.airport == q.airport)) || (!(p.name == q.name))))] (fun hk5 => ?_) ?_
  · refine wpq_split 11 (b := (!(p.airport == q.airport))) (by kernel_rfl) (fun q3 => ?_) (fun q3 => ?_)
    · have q3n := not_eq_true_ q3
      have q3np : ¬ (p.airport = q.airport) := ne_of_beq_false_ q3n
      refine xB 6 [] [(2, vp b1 0), (3, vp b2 0), (17, vb true)] ?_
      refine wpq_re 17 (v := vb true) (Value.bool (((!(p.airport == q.airport)) || (!(p.name == q.name))))) (by kernel_rfl) (re_or1 q3) ?_
      exact wpq_sub _ (by kernel_rfl) hk5
    · have q3n := not_eq_false_ q3
      have q3np : p.airport = q.airport := eq_of_beq q3n
      refine xB 4 [(7, 1), (9, 0)] [(2, vp b1 0), (3, vp b2 0), (11, vb false), (13, vt p.name), (15, vt q.name)] ?_
      refine xV (qNeS (p.name) (q.name)) ?_
      refine xB 1 [] [(2, vp b1 0), (3, vp b2 0), (17, vb (!(p.name == q.name)))] ?_
      refine wpq_re 17 (v := vb (!(p.name == q.name))) (Value.bool (((!(p.airport == q.airport)) || (!(p.name == q.name))))) (by kernel_rfl) (re_or0 q3) ?_
      exact wpq_sub _ (by kernel_rfl) hk5
  · refine xB 1 [] [(2, vp b1 0), (3, vp b2 0), (18, vb ((!(p.airport == q.airport)) || (!(p.name == q.name))))] ?_
    refine wpr_grp 19 [(2, vp b1 0), (3, vp b2 0), (24, vb (((!(p.airport == q.airport)) || (!(p.name == q.name))) || (p.kind != q.kind)))] (fun hk12 => ?_) ?_
    · refine wpq_split 18 (b := ((!(p.airport == q.airport)) || (!(p.name == q.name)))) (by kernel_rfl) (fun q4 => ?_) (fun q4 => ?_)
      · refine xB 6 [] [(2, vp b1 0), (3, vp b2 0), (24, vb true)] ?_
        refine wpq_re 24 (v := vb true) (Value.bool ((((!(p.airport == q.airport)) || (!(p.name == q.name))) || (p.kind != q.kind)))) (by kernel_rfl) (re_or1 q4) ?_
        exact wpq_sub _ (by kernel_rfl) hk12
      · have q4l := (or_false_ q4).1
        have q4r := (or_false_ q4).2
        have q4ln := not_eq_false_ q4l
        have q4lnp : p.airport = q.airport := eq_of_beq q4ln
        have q4rn := not_eq_false_ q4r
        have q4rnp : p.name = q.name := eq_of_beq q4rn
        refine xB 6 [(14, 1), (16, 0)] [(2, vp b1 0), (3, vp b2 0), (24, vb (p.kind != q.kind))] ?_
        refine wpq_re 24 (v := vb (p.kind != q.kind)) (Value.bool ((((!(p.airport == q.airport)) || (!(p.name == q.name))) || (p.kind != q.kind)))) (by kernel_rfl) (re_or0 q4) ?_
        exact wpq_sub _ (by kernel_rfl) hk12
    · refine xB 1 [] [(2, vp b1 0), (3, vp b2 0), (25, vb (((!(p.airport == q.airport)) || (!(p.name == q.name))) || (p.kind != q.kind)))] ?_
      refine wpr_grp 28 [(2, vp b1 0), (3, vp b2 0), (33, vb ((((!(p.airport == q.airport)) || (!(p.name == q.name))) || (p.kind != q.kind)) || ((((p.parts).length : Nat) : Int) != (((q.parts).length : Nat) : Int))))] (fun hk19 => ?_) ?_
      · refine wpq_split 25 (b := (((!(p.airport == q.airport)) || (!(p.name == q.name))) || (p.kind != q.kind))) (by kernel_rfl) (fun q5 => ?_) (fun q5 => ?_)
        · refine xB 8 [] [(2, vp b1 0), (3, vp b2 0), (33, vb true)] ?_
          refine wpq_re 33 (v := vb true) (Value.bool (((((!(p.airport == q.airport)) || (!(p.name == q.name))) || (p.kind != q.kind)) || ((((p.parts).length : Nat) : Int) != (((q.parts).length : Nat) : Int))))) (by kernel_rfl) (re_or1 q5) ?_
          exact wpq_sub _ (by kernel_rfl) hk19
        · have q5l := (or_false_ q5).1
          have q5r := (or_false_ q5).2
          have q5ll := (or_false_ q5l).1
          have q5lr := (or_false_ q5l).2
          have q5lln := not_eq_false_ q5ll
          have q5llnp : p.airport = q.airport := eq_of_beq q5lln
          have q5lrn := not_eq_false_ q5lr
          have q5lrnp : p.name = q.name := eq_of_beq q5lrn
          have q5rp : p.kind = q.kind := eq_of_bne_false_ q5r
          refine xB 8 [(21, 1), (24, 0)] [(2, vp b1 0), (3, vp b2 0), (33, vb ((((p.parts).length : Nat) : Int) != (((q.parts).length : Nat) : Int)))] ?_
          refine wpq_re 33 (v := vb ((((p.parts).length : Nat) : Int) != (((q.parts).length : Nat) : Int))) (Value.bool (((((!(p.airport == q.airport)) || (!(p.name == q.name))) || (p.kind != q.kind)) || ((((p.parts).length : Nat) : Int) != (((q.parts).length : Nat) : Int))))) (by kernel_rfl) (re_or0 q5) ?_
          exact wpq_sub _ (by kernel_rfl) hk19
      · refine xRe ?_
        refine wpq_then ?_
        refine xCd (((((!(p.airport == q.airport)) || (!(p.name == q.name))) || (p.kind != q.kind)) || ((((p.parts).length : Nat) : Int) != (((q.parts).length : Nat) : Int)))) (fun h6 => ?_) (fun h6 => ?_)
        · have hS := cond_T h6 hS
          refine xSq ?_
          refine xRg ?_
          refine xB 1 [] [(4, vb false)] ?_
          refine xRe ?_
          refine wpq_then ?_
          have eS := (Option.some.inj hS).symm
          subst eS
          exact xRet [] [4] (Gh.le.refl _) ⟨by kernel_rfl, by kernel_rfl⟩ (fun _ _ h => h)
        · have hS := cond_F h6 hS
          have h6l := (or_false_ h6).1
          have h6r := (or_false_ h6).2
          have h6ll := (or_false_ h6l).1
          have h6lr := (or_false_ h6l).2
          have h6lll := (or_false_ h6ll).1
          have h6llr := (or_false_ h6ll).2
          have h6llln := not_eq_false_ h6lll
          have h6lllnp : p.airport = q.airport := eq_of_beq h6llln
          have h6llrn := not_eq_false_ h6llr
          have h6llrnp : p.name = q.name := eq_of_beq h6llrn
          have h6lrp : p.kind = q.kind := eq_of_bne_false_ h6lr
          have h6rp : (((p.parts).length : Nat) : Int) = (((q.parts).length : Nat) : Int) := eq_of_bne_false_ h6r
          refine xSk ?_
          refine wpq_then ?_
          refine xSub [(2, vp b1 0), (3, vp b2 0)] ?_
          refine xSq ?_
          refine xSq ?_
          refine xRg ?_
          refine xB 4 [(1, 1)] [(2, vp b1 0), (3, vp b2 0), (36, vi (((p.parts).length : Nat) : Int)), (37, vi 0)] ?_
          refine xRe ?_
          refine wpq_then ?_
          refine xJoinO hS (fun g own sl t7 => own = [] ∧ sl = []) ?_ ?_
          · rintro g8 _ _ t7 e9 ⟨rfl, rfl⟩ hS
            refine wpq_then ?_
            refine xSq ?_
            refine xRg ?_
            refine xB 1 [] [(4, vb true)] ?_
            refine xRe ?_
            refine wpq_then ?_
            have eS := (Option.some.inj hS).symm
            subst eS
            exact xRet [] [4] e9 ⟨by kernel_rfl, by kernel_rfl⟩ (fun _ _ h => h)
          · intro uu7 hS hN7 hD7
            refine xBl 0 ?_
            refine xSub [(2, vp b1 0), (3, vp b2 0), (36, vi (((p.parts).length : Nat) : Int)), (37, vi 0)] ?_
            refine xLo hS (fun g own sl s12 => own = [some ⟨b2, 25, (cProc q Aq_parts cq_parts)⟩, some ⟨b1, 25, (cProc p Ap_parts cp_parts)⟩] ∧ sl = [(2, vp b1 0), (3, vp b2 0), (36, vi (((p.parts).length : Nat) : Int)), (37, vi ((s12 : Nat) : Int))]) ⟨by kernel_rfl, by kernel_rfl⟩ ?_
            rintro g13 _ _ s12 uu12 e14 ⟨rfl, rfl⟩ hS Qr12 hN12 hD12
            unfold o33_L0 at hS
            refine xSq ?_
            refine xRg ?_
            refine xB 1 [] [(2, vp b1 0), (3, vp b2 0), (36, vi (((p.parts).length : Nat) : Int)), (37, vi ((s12 : Nat) : Int)), (38, vb (decide (((s12 : Nat) : Int) < (((p.parts).length : Nat) : Int))))] ?_
            refine xRe ?_
            refine wpq_then ?_
            refine xSq ?_
            refine xCd (decide (((s12 : Nat) : Int) < (((p.parts).length : Nat) : Int))) (fun h15 => ?_) (fun h15 => ?_)
            · have hS := cond_T h15 hS
              have h15p := of_decide_eq_true h15
              refine xSk ?_
              refine wpq_then ?_
              refine xSub [(2, vp b1 0), (3, vp b2 0), (36, vi (((p.parts).length : Nat) : Int)), (37, vi ((s12 : Nat) : Int))] ?_
              refine xSq ?_
              refine xBl 1 ?_
              refine xSq ?_
              refine xRg ?_
              refine xB 2 [] [(2, vp b1 0), (3, vp b2 0), (5, vi ((s12 : Nat) : Int)), (36, vi (((p.parts).length : Nat) : Int)), (37, vi ((s12 : Nat) : Int))] ?_
              refine xRe ?_
              refine wpq_then ?_
              refine xSq ?_
              refine xDr 0 [1, 4, 6, 9] [] [some ⟨b2, 25, (cProc q Aq_parts cq_parts)⟩, some ⟨b1, 25, (cProc p Ap_parts cp_parts)⟩] 12 (fun RG => ?_) (fun _ _ _ _ _ h => h)
              have fp_parts := fp_parts.mono e14.r
              have i17 : s12 < (p.parts).length := by omega
              obtain ⟨ad16, cs16, hA16, hr16, hc16⟩ := fp_parts.at_ (get_getD (d := default) i17)
              obtain ⟨A16_legs, c16_legs, rfl, f16_legs⟩ := hr16
              have nf16_legs := f16_legs.len
              refine xT 9 [0, 1, 2] [(1, 1)] [some 0, some 1] [(2, vp b1 0), (3, vp b2 0), (5, vi ((s12 : Nat) : Int)), (36, vi (((p.parts).length : Nat) : Int)), (37, vi ((s12 : Nat) : Int)), (41, vs Ap_parts p.parts cp_parts), (42, vi ((s12 : Nat) : Int))] RG (Psi.le.refl _) ?_
              refine xTp 3 RG (fun _ => (qIx s12 3 hA16 rfl i17)) ?_
              refine xTv 4 [some 0, some 1] RG (Psi.le.refl _) (qLdP (Addr.add ad16 (s12 * 3)) 0 hc16) ?_
              have fq_parts := fq_parts.mono e14.r
              obtain ⟨q19, hS⟩ := grd_T hS
              have q19p := of_decide_eq_true q19
              obtain ⟨ad18, cs18, hA18, hr18, hc18⟩ := fq_parts.at_ (get_getD (d := default) q19p)
              obtain ⟨A18_legs, c18_legs, rfl, f18_legs⟩ := hr18
              have nf18_legs := f18_legs.len
              refine xT 4 [5, 6, 7] [(6, 0)] [some 0, some 1] [(2, vp b1 0), (3, vp b2 0), (36, vi (((p.parts).length : Nat) : Int)), (37, vi ((s12 : Nat) : Int)), (44, Value.agg #[vy ((List.getD p.parts s12 default).kind), vt ((List.getD p.parts s12 default).name), vs A16_legs ((List.getD p.parts s12 default).legs) c16_legs]), (46, vs Aq_parts q.parts cq_parts), (47, vi ((s12 : Nat) : Int))] RG (Psi.le.refl _) ?_
              refine xTp 8 RG (fun _ => (qIx s12 3 hA18 rfl q19p)) ?_
              refine xTv 9 [some 0, some 1] RG (Psi.le.refl _) (qLdP (Addr.add ad18 (s12 * 3)) 0 hc18) ?_
              obtain ⟨y20, hy20, hS⟩ := bindO_T hS
              refine xO1 (lds := [1, 4, 6, 9]) 10 ?_
              refine xIe (lds := [1, 4, 6, 9]) (Psi.le.refl _) (eC 0 (fun g' lr eb ln => C19 g' (List.getD p.parts s12 default) A16_legs c16_legs (List.getD q.parts s12 default) A18_legs c18_legs (f16_legs.mono lr) (f18_legs.mono lr) hy20)) ?_
              rintro _ g21 _ e22 ⟨_, rfl, rfl, rfl⟩
              refine kk [some 0, some 1] ?_
              refine xT 0 [11] [] [some 0, some 1] [(2, vp b1 0), (3, vp b2 0), (36, vi (((p.parts).length : Nat) : Int)), (37, vi ((s12 : Nat) : Int)), (51, vb (!y20))] RG e22.r ?_
              refine xAe (lds := [1, 4, 6, 9]) ?_
              refine wpq_then ?_
              refine xCd ((!y20)) (fun h23 => ?_) (fun h23 => ?_)
              · have hS := cond_T h23 hS
                have h23n := not_eq_true_ h23
                refine xSq ?_
                refine xRg ?_
                refine xB 1 [] [(4, vb false)] ?_
                refine xRe ?_
                refine wpq_then ?_
                have eS := (Option.some.inj hS).symm
                have eS := (hD12 _ eS).symm
                have eS := (hD7 _ eS).symm
                subst eS
                exact xRet [] [4] (e14.trans e22) ⟨by kernel_rfl, by kernel_rfl⟩ (fun _ _ h => h)
              · have hS := cond_F h23 hS
                have h23n := not_eq_false_ h23
                refine xSk ?_
                refine wpq_blockN ?_
                refine wpq_then ?_
                refine xSub [(2, vp b1 0), (3, vp b2 0), (36, vi (((p.parts).length : Nat) : Int)), (37, vi ((s12 : Nat) : Int))] ?_
                refine xRg ?_
                obtain ⟨q24, hS⟩ := grd_T hS
                have q24p := of_decide_eq_true q24
                refine xV (qAdd .i64 (((s12 : Nat) : Int)) (1) (wr64 (by omega))) ?_
                refine xB 1 [] [(2, vp b1 0), (3, vp b2 0), (36, vi (((p.parts).length : Nat) : Int)), (37, vi (((s12 : Nat) : Int) + 1))] ?_
                refine xRe ?_
                refine wpq_thenN ?_
                refine xSub [(2, vp b1 0), (3, vp b2 0), (36, vi (((p.parts).length : Nat) : Int)), (37, vi (((s12 : Nat) : Int) + 1))] ?_
                have eS := (Option.some.inj hS).symm
                exact hN12 _ eS _ _ _ e22 ⟨by kernel_rfl, by kernel_rfl⟩
            · have hS := cond_F h15 hS
              have h15p := of_decide_eq_false h15
              refine xEx 0 ?_
              refine wpq_thenX ?_
              refine wpq_thenX ?_
              refine wpq_blockE ?_
              refine xSel [] ?_
              refine xSub [] ?_
              have eS := (Option.some.inj hS).symm
              have eS := (hD12 _ eS).symm
              exact hN7 _ eS _ _ _ e14 ⟨by kernel_rfl, by kernel_rfl⟩

def o11 (l : List Proc) (p : Proc) (q : Proc) : Option (Bool) :=
  (bindO (τ := Bool) (o12) fun y3 => (cond ((!y3)) (some ((false))) (bindO (τ := Int) (o29 p q) fun y7 => (letJ (τ := Int) (o30 p q) fun y10 => (bindO (τ := Bool) (cond ((y7 != y10)) (some (true)) (bindO (τ := Int) (o29 q p) fun y44 => (bindO (τ := Int) (o29 p q) fun y47 => (some (y44 != (IntKind.i64.wrap (0 - y47))))))) fun t13 => (cond (t13) (some ((false))) (bindO (τ := Proc × Bool) (o31 (l : List Proc) p.airport (p.kind : Int) p.name) fun y17 => (bindO (τ := Proc × Bool) (o32 (l : List Proc) p.airport (p.kind : Int) p.name) fun y21 => (bindO (τ := Bool) (cond ((y17.2 == y21.2)) (bindO (τ := Bool) (o33 y17.1 y21.1) fun y40 => (some (y40))) (some (false))) fun t25 => (bindO (τ := Bool) (cond (t25) (bindO (τ := Bool) (cond ((!y17.2)) (some (true)) (bindO (τ := Int) (o29 y17.1 p) fun y36 => (some (y36 == 0)))) fun t32 => (some (t32))) (some (false))) fun t28 => (some ((t28)))))))))))))
set_option maxRecDepth 100000 in
theorem C11 (g : Gh) (l : List Proc) (Al : Option Addr) (cl : Nat) (p : Proc) (Ap_parts : Option Addr) (cp_parts : Nat) (q : Proc) (Aq_parts : Option Addr) (cq_parts : Nat) (fl : Arr g.b tyProc Al cl l) (fp_parts : Arr g.r tyPart Ap_parts cp_parts p.parts) (fq_parts : Arr g.r tyPart Aq_parts cq_parts q.parts) (fG0 : Arr g.r (tyI .u16) (some ⟨0, 0, none⟩) 18 usesL) {r : Bool} (hS : o11 l p q = some r) :
    Ctr Tryd.prog 11 [vs Al l cl, Value.agg #[vt p.airport, vt p.name, vy p.kind, vs Ap_parts p.parts cp_parts], Value.agg #[vt q.airport, vt q.name, vy q.kind, vs Aq_parts q.parts cq_parts]] g [] (fun v ψ o => v = vb r ∧ o = []) := by
  unfold o11 at hS
  refine xFn Tryd.f11 (Tryd.f11.body.getD .skip) 70 ?_
  have hlG0 := hlUses
  have nfl := fl.len
  have nfp_parts := fp_parts.len
  have nfq_parts := fq_parts.len
  have nfG0 := fG0.len
  refine xSq ?_
  refine xRg ?_
  refine xE eB ?_
  rintro _ _ _ - ⟨b1, rfl, rfl, rfl⟩
  refine xE eB ?_
  rintro _ _ _ - ⟨b2, rfl, rfl, rfl⟩
  refine xB 1 [] [(0, vs Al l cl), (4, vp b1 0), (5, vp b2 0)] ?_
  refine xRe ?_
  refine wpq_then ?_
  refine xSq ?_
  refine xSq ?_
  refine xRg ?_
  obtain ⟨y3, hy3, hS⟩ := bindO_T hS
  refine xE (eC 0 (fun g' lr eb ln => C12 g' (fG0.mono lr) hy3)) ?_
  rintro _ g4 _ e5 ⟨_, rfl, rfl, rfl⟩
  refine xB 1 [] [(0, vs Al l cl), (4, vp b1 0), (5, vp b2 0), (12, vb (!y3))] ?_
  refine xRe ?_
  refine wpq_then ?_
  refine xCd ((!y3)) (fun h6 => ?_) (fun h6 => ?_)
  · have hS := cond_T h6 hS
    have h6n := not_eq_true_ h6
    refine xSq ?_
    refine xRg ?_
    refine xB 1 [] [(6, vb false)] ?_
    refine xRe ?_
    refine wpq_then ?_
    have eS := (Option.some.inj hS).symm
    subst eS
    exact xRet [] [6] e5 ⟨by kernel_rfl, by kernel_rfl⟩ (fun _ _ h => h)
  · have hS := cond_F h6 hS
    have h6n := not_eq_false_ h6
    refine xSk ?_
    refine wpq_then ?_
    refine xSub [(0, vs Al l cl), (4, vp b1 0), (5, vp b2 0)] ?_
    refine xSq ?_
    refine xSq ?_
    refine xDr 0 [0, 1, 3, 4, 8, 9, 11, 12] [] [some ⟨b2, 25, (cProc q Aq_parts cq_parts)⟩, some ⟨b1, 25, (cProc p Ap_parts cp_parts)⟩] 17 (fun RG => ?_) (fun _ _ _ _ _ h => h)
    refine xT 13 [0, 1, 3, 4] [(0, 1), (1, 0), (3, 1), (4, 0)] [some 0, some 1] [(0, vs Al l cl), (4, vp b1 0), (5, vp b2 0), (13, Value.agg #[vt p.airport, vt p.name, vy p.kind, vs Ap_parts p.parts cp_parts]), (14, Value.agg #[vt q.airport, vt q.name, vy q.kind, vs Aq_parts q.parts cq_parts]), (16, Value.agg #[vt p.airport, vt p.name, vy p.kind, vs Ap_parts p.parts cp_parts]), (17, Value.agg #[vt q.airport, vt q.name, vy q.kind, vs Aq_parts q.parts cq_parts])] RG (Psi.le.refl _) ?_
    have fp_parts := fp_parts.mono e5.r
    have fq_parts := fq_parts.mono e5.r
    obtain ⟨y7, hy7, hS⟩ := bindO_T hS
    refine xO1 (lds := [0, 1, 3, 4, 8, 9, 11, 12]) 2 ?_
    refine xIe (lds := [0, 1, 3, 4, 8, 9, 11, 12]) (Psi.le.refl _) (eC 0 (fun g' lr eb ln => C29 g' p Ap_parts cp_parts q Aq_parts cq_parts (fp_parts.mono lr) (fq_parts.mono lr) hy7)) ?_
    rintro _ g8 _ e9 ⟨_, rfl, rfl, rfl⟩
    refine kk [some 0, some 1] ?_
    have Efp_parts := fp_parts
    have fp_parts := fp_parts.mono e9.r
    have Efq_parts := fq_parts
    have fq_parts := fq_parts.mono e9.r
    obtain ⟨y10, hy10, hS⟩ := letJ_T hS
    refine xO1 (lds := [0, 1, 3, 4, 8, 9, 11, 12]) 5 ?_
    refine xIe (lds := [0, 1, 3, 4, 8, 9, 11, 12]) e9.r (eC 0 (fun g' lr eb ln => C30 g' p Ap_parts cp_parts q Aq_parts cq_parts (fp_parts.mono lr) (fq_parts.mono lr) hy10)) ?_
    rintro _ g11 _ e12 ⟨_, rfl, rfl, rfl⟩
    refine kk [some 0, some 1] ?_
    refine xT 9 [6, 7] [] [some 0, some 1] [(0, vs Al l cl), (4, vp b1 0), (5, vp b2 0), (20, vb (y7 != y10))] RG (e9.trans e12).r ?_
    refine xGJoA hS 0 [true, true, true, true, true, true, true, true, true, true, true, true, true, true, true, true, true] (fun g own sl t13 => own = [some ⟨b2, 25, (cProc q Aq_parts cq_parts)⟩, some ⟨b1, 25, (cProc p Ap_parts cp_parts)⟩] ∧ sl = [(0, vs Al l cl), (4, vp b1 0), (29, vb t13)]) ?_ ?_
    · rintro g14 _ _ t13 e15 ⟨rfl, rfl⟩ hS
      refine xAe (lds := [0, 1, 3, 4, 8, 9, 11, 12]) ?_
      refine wpq_then ?_
      refine xCd (t13) (fun h16 => ?_) (fun h16 => ?_)
      · have hS := cond_T h16 hS
        refine xSq ?_
        refine xRg ?_
        refine xB 1 [] [(6, vb false)] ?_
        refine xRe ?_
        refine wpq_then ?_
        have eS := (Option.some.inj hS).symm
        subst eS
        exact xRet [] [6] (e5.trans (e9.trans (e12.trans e15))) ⟨by kernel_rfl, by kernel_rfl⟩ (fun _ _ h => h)
      · have hS := cond_F h16 hS
        refine xSk ?_
        refine wpq_then ?_
        refine xSub [(0, vs Al l cl), (4, vp b1 0)] ?_
        refine xSq ?_
        refine xRg ?_
        refine xB 7 [(2, 1), (4, 1), (6, 1)] [(0, vs Al l cl), (4, vp b1 0), (31, vs Al l cl), (33, vt p.airport), (35, vy p.kind), (37, vt p.name)] ?_
        have fl := fl.mono (e5.trans (e9.trans (e12.trans e15))).b
        obtain ⟨y17, hy17, hS⟩ := bindO_T hS
        refine xE (eC 0 (fun g' lr eb ln => C31 g' (l : List Proc) Al cl p.airport (p.kind : Int) p.name (ArrM.lent (fl.toM g14.br) lr eb) hy17)) ?_
        rintro _ g18 _ e19 ⟨_, rfl, A17_0_parts, c17_0_parts, rfl, rfl, f17_0_parts⟩
        have nf17_0_parts := f17_0_parts.len
        refine xB 3 [] [(0, vs Al l cl), (4, vp b1 0), (39, Value.agg #[vt y17.1.airport, vt y17.1.name, vy y17.1.kind, vs A17_0_parts y17.1.parts c17_0_parts]), (40, vb y17.2)] ?_
        refine xE eB ?_
        rintro _ _ _ - ⟨b20, rfl, rfl, rfl⟩
        refine xBo 2 [(12, 0)] [some ⟨b20, 25, (cProc y17.1 A17_0_parts c17_0_parts)⟩, some ⟨b2, 25, (cProc q Aq_parts cq_parts)⟩, some ⟨b1, 25, (cProc p Ap_parts cp_parts)⟩] [(0, vs Al l cl), (4, vp b1 0), (7, vp b20 0), (8, vb y17.2)] ?_
        refine xRe ?_
        refine wpq_then ?_
        refine xSq ?_
        refine xRg ?_
        refine xB 7 [(2, 2), (4, 2), (6, 2)] [(4, vp b1 0), (7, vp b20 0), (8, vb y17.2), (42, vs Al l cl), (44, vt p.airport), (46, vy p.kind), (48, vt p.name)] ?_
        have fl := fl.mono e19.b
        obtain ⟨y21, hy21, hS⟩ := bindO_T hS
        refine xE (eC 0 (fun g' lr eb ln => C32 g' (l : List Proc) Al cl p.airport (p.kind : Int) p.name (by rw [eb]; exact fl) hy21)) ?_
        rintro _ g22 _ e23 ⟨_, rfl, A21_0_parts, c21_0_parts, rfl, rfl, f21_0_parts⟩
        have nf21_0_parts := f21_0_parts.len
        refine xB 3 [] [(4, vp b1 0), (7, vp b20 0), (8, vb y17.2), (50, Value.agg #[vt y21.1.airport, vt y21.1.name, vy y21.1.kind, vs A21_0_parts y21.1.parts c21_0_parts]), (51, vb y21.2)] ?_
        refine xE eB ?_
        rintro _ _ _ - ⟨b24, rfl, rfl, rfl⟩
        refine xBo 2 [(12, 0)] [some ⟨b24, 25, (cProc y21.1 A21_0_parts c21_0_parts)⟩, some ⟨b20, 25, (cProc y17.1 A17_0_parts c17_0_parts)⟩, some ⟨b2, 25, (cProc q Aq_parts cq_parts)⟩, some ⟨b1, 25, (cProc p Ap_parts cp_parts)⟩] [(4, vp b1 0), (7, vp b20 0), (8, vb y17.2), (9, vp b24 0), (10, vb y21.2)] ?_
        refine xRe ?_
        refine wpq_then ?_
        refine xSq ?_
        refine xRg ?_
        refine xB 4 [] [(4, vp b1 0), (7, vp b20 0), (8, vb y17.2), (9, vp b24 0), (55, vb (y17.2 == y21.2))] ?_
        refine xGJo hS 8 (fun g own sl t25 => own = [some ⟨b20, 25, (cProc y17.1 A17_0_parts c17_0_parts)⟩, some ⟨b1, 25, (cProc p Ap_parts cp_parts)⟩] ∧ sl = [(4, vp b1 0), (7, vp b20 0), (8, vb y17.2), (59, vb t25)]) ?_ ?_
        · rintro g26 _ _ t25 e27 ⟨rfl, rfl⟩ hS
          refine xB 1 [] [(4, vp b1 0), (7, vp b20 0), (8, vb y17.2), (60, vb t25)] ?_
          refine xGJo hS 18 (fun g own sl t28 => own = [] ∧ sl = [(69, vb t28)]) ?_ ?_
          · rintro g29 _ _ t28 e30 ⟨rfl, rfl⟩ hS
            refine xB 1 [] [(6, vb t28)] ?_
            refine xRe ?_
            refine wpq_then ?_
            have eS := (Option.some.inj hS).symm
            subst eS
            exact xRet [] [6] (e5.trans (e9.trans (e12.trans (e15.trans (e19.trans (e23.trans (e27.trans e30))))))) ⟨by kernel_rfl, by kernel_rfl⟩ (fun _ _ h => h)
          · intro uu28 hS hN28
            refine wpq_split 60 (b := t25) (by kernel_rfl) (fun q31 => ?_) (fun q31 => ?_)
            · have hS := cond_T q31 hS
              refine xB 3 [] [(4, vp b1 0), (7, vp b20 0), (60, vb true), (63, vb (!y17.2))] ?_
              refine xGJo hS 17 (fun g own sl t32 => own = [] ∧ sl = [(60, vb true), (68, vb t32)]) ?_ ?_
              · rintro g33 _ _ t32 e34 ⟨rfl, rfl⟩ hS
                refine xB 1 [] [(69, vb t32)] ?_
                refine xSub [(69, vb t32)] ?_
                exact hN28 _ (Option.some.inj hS).symm _ _ _ e34 ⟨by kernel_rfl, by kernel_rfl⟩
              · intro uu32 hS hN32
                refine wpq_split 63 (b := (!y17.2)) (by kernel_rfl) (fun q35 => ?_) (fun q35 => ?_)
                · have hS := cond_T q35 hS
                  have q35n := not_eq_true_ q35
                  refine xB 5 [] [(60, vb true), (68, vb true)] ?_
                  refine xSel [] ?_
                  refine xSub [(60, vb true), (68, vb true)] ?_
                  exact hN32 _ (Option.some.inj hS).symm _ _ _ (Gh.le.refl _) ⟨by kernel_rfl, by kernel_rfl⟩
                · have hS := cond_F q35 hS
                  have q35n := not_eq_false_ q35
                  refine xB 2 [(12, 0), (13, 1)] [(60, vb true), (63, vb false), (64, Value.agg #[vt y17.1.airport, vt y17.1.name, vy y17.1.kind, vs A17_0_parts y17.1.parts c17_0_parts]), (65, Value.agg #[vt p.airport, vt p.name, vy p.kind, vs Ap_parts p.parts cp_parts])] ?_
                  have f17_0_parts := f17_0_parts.mono (e23.trans e27).b
                  have fp_parts := fp_parts.mono (e12.trans (e15.trans (e19.trans (e23.trans e27)))).r
                  obtain ⟨y36, hy36, hS⟩ := bindO_T hS
                  refine xE (eC 0 (fun g' lr eb ln => C29 g' y17.1 A17_0_parts c17_0_parts p Ap_parts cp_parts ((f17_0_parts.mono g26.br).mono lr) (fp_parts.mono lr) hy36)) ?_
                  rintro _ g37 _ e38 ⟨_, rfl, rfl, rfl⟩
                  refine xB 2 [] [(60, vb true), (68, vb (y36 == 0))] ?_
                  refine xSel [] ?_
                  refine xSub [(60, vb true), (68, vb (y36 == 0))] ?_
                  exact hN32 _ (Option.some.inj hS).symm _ _ _ e38 ⟨by kernel_rfl, by kernel_rfl⟩
            · have hS := cond_F q31 hS
              refine xB 9 [] [(69, vb false)] ?_
              refine xSel [] ?_
              refine xSub [(69, vb false)] ?_
              exact hN28 _ (Option.some.inj hS).symm _ _ _ (Gh.le.refl _) ⟨by kernel_rfl, by kernel_rfl⟩
        · intro uu25 hS hN25
          refine wpq_split 55 (b := (y17.2 == y21.2)) (by kernel_rfl) (fun q39 => ?_) (fun q39 => ?_)
          · have hS := cond_T q39 hS
            have q39p : y17.2 = y21.2 := eq_of_beq q39
            refine xB 2 [(4, 1), (5, 0)] [(4, vp b1 0), (7, vp b20 0), (8, vb y17.2), (55, vb true), (56, Value.agg #[vt y17.1.airport, vt y17.1.name, vy y17.1.kind, vs A17_0_parts y17.1.parts c17_0_parts]), (57, Value.agg #[vt y21.1.airport, vt y21.1.name, vy y21.1.kind, vs A21_0_parts y21.1.parts c21_0_parts])] ?_
            have f17_0_parts := f17_0_parts.mono e23.b
            obtain ⟨y40, hy40, hS⟩ := bindO_T hS
            refine xE (eC 0 (fun g' lr eb ln => C33 g' y17.1 A17_0_parts c17_0_parts y21.1 A21_0_parts c21_0_parts ((f17_0_parts.mono g22.br).mono lr) ((f21_0_parts.mono g22.br).mono lr) hy40)) ?_
            rintro _ g41 _ e42 ⟨_, rfl, rfl, rfl⟩
            refine xB 1 [] [(4, vp b1 0), (7, vp b20 0), (8, vb y17.2), (59, vb y40)] ?_
            refine xSel [some 1, some 3] ?_
            refine xSub [(4, vp b1 0), (7, vp b20 0), (8, vb y17.2), (59, vb y40)] ?_
            exact hN25 _ (Option.some.inj hS).symm _ _ _ e42 ⟨by kernel_rfl, by kernel_rfl⟩
          · have hS := cond_F q39 hS
            have q39p : ¬ (y17.2 = y21.2) := ne_of_beq_false_ q39
            refine xB 4 [] [(4, vp b1 0), (7, vp b20 0), (8, vb y17.2), (59, vb false)] ?_
            refine xSel [some 1, some 3] ?_
            refine xSub [(4, vp b1 0), (7, vp b20 0), (8, vb y17.2), (59, vb false)] ?_
            exact hN25 _ (Option.some.inj hS).symm _ _ _ (Gh.le.refl _) ⟨by kernel_rfl, by kernel_rfl⟩
    · intro uu13 hS hN13
      refine wpq_split 20 (b := (y7 != y10)) (by kernel_rfl) (fun q43 => ?_) (fun q43 => ?_)
      · have hS := cond_T q43 hS
        have q43p : ¬ (y7 = y10) := ne_of_bne_ q43
        refine xT 5 [8, 9, 11, 12] [] [some 0, some 1] [(0, vs Al l cl), (4, vp b1 0), (20, vb true), (21, undef), (22, undef), (24, undef), (25, undef)] RG (e9.trans e12).r ?_
        refine xO1 (lds := [0, 1, 3, 4, 8, 9, 11, 12]) 10 ?_
        refine xIb (lds := [0, 1, 3, 4, 8, 9, 11, 12]) [] ?_
        refine xO1 (lds := [0, 1, 3, 4, 8, 9, 11, 12]) 13 ?_
        refine xIb (lds := [0, 1, 3, 4, 8, 9, 11, 12]) [] ?_
        refine xT 0 [14, 15, 16] [] [some 0, some 1] [(0, vs Al l cl), (4, vp b1 0), (29, vb true)] RG (e9.trans e12).r ?_
        refine xSub [(0, vs Al l cl), (4, vp b1 0), (29, vb true)] ?_
        exact hN13 _ (Option.some.inj hS).symm _ _ _ (Gh.le.refl _) ⟨by kernel_rfl, by kernel_rfl⟩
      · have hS := cond_F q43 hS
        have q43p : y7 = y10 := eq_of_bne_false_ q43
        refine xT 5 [8, 9, 11, 12] [(8, 0), (9, 1), (11, 1), (12, 0)] [some 0, some 1] [(0, vs Al l cl), (4, vp b1 0), (20, vb false), (21, Value.agg #[vt q.airport, vt q.name, vy q.kind, vs Aq_parts q.parts cq_parts]), (22, Value.agg #[vt p.airport, vt p.name, vy p.kind, vs Ap_parts p.parts cp_parts]), (24, Value.agg #[vt p.airport, vt p.name, vy p.kind, vs Ap_parts p.parts cp_parts]), (25, Value.agg #[vt q.airport, vt q.name, vy q.kind, vs Aq_parts q.parts cq_parts])] RG (e9.trans e12).r ?_
        have fq_parts := fq_parts.mono e12.r
        have fp_parts := fp_parts.mono e12.r
        obtain ⟨y44, hy44, hS⟩ := bindO_T hS
        refine xO1 (lds := [0, 1, 3, 4, 8, 9, 11, 12]) 10 ?_
        refine xIe (lds := [0, 1, 3, 4, 8, 9, 11, 12]) (e9.trans e12).r (eC 0 (fun g' lr eb ln => C29 g' q Aq_parts cq_parts p Ap_parts cp_parts (fq_parts.mono lr) (fp_parts.mono lr) hy44)) ?_
        rintro _ g45 _ e46 ⟨_, rfl, rfl, rfl⟩
        refine kk [some 0, some 1] ?_
        have fp_parts := fp_parts.mono e46.r
        have fq_parts := fq_parts.mono e46.r
        obtain ⟨y47, hy47, hS⟩ := bindO_T hS
        refine xO1 (lds := [0, 1, 3, 4, 8, 9, 11, 12]) 13 ?_
        refine xIe (lds := [0, 1, 3, 4, 8, 9, 11, 12]) (e9.trans (e12.trans e46)).r (eC 0 (fun g' lr eb ln => C29 g' p Ap_parts cp_parts q Aq_parts cq_parts (fp_parts.mono lr) (fq_parts.mono lr) hy47)) ?_
        rintro _ g48 _ e49 ⟨_, rfl, rfl, rfl⟩
        refine kk [some 0, some 1] ?_
        refine xT 0 [14, 15, 16] [] [some 0, some 1] [(0, vs Al l cl), (4, vp b1 0), (29, vb (y44 != (IntKind.i64.wrap (0 - y47))))] RG (e9.trans (e12.trans (e46.trans e49))).r ?_
        refine xSub [(0, vs Al l cl), (4, vp b1 0), (29, vb (y44 != (IntKind.i64.wrap (0 - y47))))] ?_
        exact hN13 _ (Option.some.inj hS).symm _ _ _ (e46.trans e49) ⟨by kernel_rfl, by kernel_rfl⟩

end Go.Proofs.YthfekfebgghjhaaDoor
