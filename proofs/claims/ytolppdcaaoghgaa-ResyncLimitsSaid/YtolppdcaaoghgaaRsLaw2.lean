/-
ResyncLimits returns true for every input. Conditions: none.
-/
import Derived.Test.YtolppdcaaoghgaaFrame
import Derived.Test.YtolppdcaaoghgaaRsAwake
namespace Go.Proofs.Ytolppdcaaoghgaa
set_option linter.unusedVariables false
set_option linter.unusedSimpArgs false
set_option maxRecDepth 100000
open Go.RowKit Go.WideShapes Go.ChangeShapes Go.ChangeAt
theorem towardI_self (a r : Int) : towardI a a r = a := by unfold towardI; simp; intro h; split at h <;> omega
set_option maxHeartbeats 1000000 in
theorem limits_law (a0 a1 a2 a3 a4 a5 a6 b0 b1 b2 b3 b4 b5 b6 r0 r1 r2 r3 : Int) (w : World) (ha3 : I64 a3) (ha4 : I64 a4) (ha5 : I64 a5) (ha6 : I64 a6) (hb3 : I64 b3) (hb4 : I64 b4) (hb5 : I64 b5) (hb6 : I64 b6)
     (hr0 : I64 r0) (hr1 : I64 r1) (hr2 : I64 r2) (hr3 : I64 r3) :
    Calls Try.prog 4 #[.agg #[.int .u8 a0, .int .u8 a1, .int .u8 a2, .int .i64 a3, .int .i64 a4, .int .i64 a5, .int .i64 a6],
      .agg #[.int .u8 b0, .int .u8 b1, .int .u8 b2, .int .i64 b3, .int .i64 b4, .int .i64 b5, .int .i64 b6], .agg #[.int .i64 r0, .int .i64 r1, .int .i64 r2, .int .i64 r3]] w fun e w' =>
    e = .returned (.bool true) ∧ Below w.heap.size w w' := by
  go_enter Try.func4, Try.ntmps4
  go_wp2_with (first
    | (go_at_call 10; refine (awake54 _).mono ?_; rintro e w1 ⟨rfl, hb1⟩; obtain ⟨hc1, hf1, hz1⟩ := bcell hb1; try simp at hz1)
    | (go_at_call 16; refine (limit1 _ _ _ _ _ _ _ _ _ _ _ _ _ _ _ _ _ _ _ (by assumption) (by assumption) (by assumption) (by assumption) (by assumption) (by assumption) (by assumption) (by assumption) (by assumption) (by assumption) (by assumption) (by assumption)).mono ?_; rintro e w2 ⟨rfl, hb2⟩; obtain ⟨hc2, hf2, hz2⟩ := bcell hb2; try simp at hz2))
  have k0 : ∀ o, w2.cell? ⟨w.heap.size, o, none⟩ = (#[.int .u8 a0, .int .u8 a1, .int .u8 a2, .int .i64 a3, .int .i64 a4, .int .i64 a5, .int .i64 a6] : Array Value)[o]? := by
    intro o; rw [hc2 _ _ (by omega), hc1 _ _ (by simp only [World.size_alloc]; omega)]; go_simp
  have k1 : ∀ o, w2.cell? ⟨w.heap.size + 1, o, none⟩ = (#[.int .u8 b0, .int .u8 b1, .int .u8 b2, .int .i64 b3, .int .i64 b4, .int .i64 b5, .int .i64 b6] : Array Value)[o]? := by
    intro o; rw [hc2 _ _ (by omega), hc1 _ _ (by simp only [World.size_alloc]; omega)]; go_simp
  have k2 : ∀ o, w2.cell? ⟨w.heap.size + 1 + 1, o, none⟩ = (#[.int .i64 r0, .int .i64 r1, .int .i64 r2, .int .i64 r3] : Array Value)[o]? := by
    intro o; rw [hc2 _ _ (by omega), hc1 _ _ (by simp only [World.size_alloc]; omega)]; go_simp
  have hB : Below w.heap.size w w2 := by repeat (first | exact Below.refl _ _ | assumption | refine Ba ?_ | refine Bd ?_ | refine Bt ?_ (by assumption))
  have hn : w.heap.size + 3 ≤ w2.heap.size := by omega
  clear hc1 hc2 hf1 hf2 hz1 hz2 hb1 hb2
  obtain ⟨o3, ho3⟩ : ∃ o3, o3 = (Obj.cells #[Value.int IntKind.u8 b0, Value.int IntKind.u8 b1, Value.int IntKind.u8 b2, Value.int IntKind.i64 (towardI a3 b3 r0), Value.int IntKind.i64 (towardI a4 b4 r1), Value.int IntKind.i64 (towardI a5 b5 r2), Value.int IntKind.i64 (towardI a6 b6 r3)] 40) := ⟨_, rfl⟩
  rw [← ho3]
  have j3 : ∀ o, (w2.alloc o3).cell? ⟨w2.heap.size, o, none⟩ = (#[.int .u8 b0, .int .u8 b1, .int .u8 b2, .int .i64 (towardI a3 b3 r0), .int .i64 (towardI a4 b4 r1), .int .i64 (towardI a5 b5 r2), .int .i64 (towardI a6 b6 r3)] : Array Value)[o]? := by
    intro o; rw [ho3]; go_simp
  clear ho3
  have j0 := rowKeep ((Below.refl _ _).alloc (Nat.le_refl _) o3) k0 (by omega)
  have j1 := rowKeep ((Below.refl _ _).alloc (Nat.le_refl _) o3) k1 (by omega)
  have j2 := rowKeep ((Below.refl _ _).alloc (Nat.le_refl _) o3) k2 (by omega)
  have jB : Below w.heap.size w (w2.alloc o3) := Ba (o := o3) hB
  have jn : w2.heap.size + 1 ≤ (w2.alloc o3).heap.size := by simp
  clear k0 k1 k2 hB
  generalize w2.alloc o3 = w3 at *
  have jBd : Below w.heap.size w w3.drew := jB.drew
  generalize w2.heap.size = N at *
  go_region_held3 (fun w' => (∀ o, w'.cell? ⟨w.heap.size, o, none⟩ = (#[.int .u8 a0, .int .u8 a1, .int .u8 a2, .int .i64 a3, .int .i64 a4, .int .i64 a5, .int .i64 a6] : Array Value)[o]?) ∧
     (∀ o, w'.cell? ⟨w.heap.size + 1, o, none⟩ = (#[.int .u8 b0, .int .u8 b1, .int .u8 b2, .int .i64 b3, .int .i64 b4, .int .i64 b5, .int .i64 b6] : Array Value)[o]?) ∧
     (∀ o, w'.cell? ⟨w.heap.size + 1 + 1, o, none⟩ = (#[.int .i64 r0, .int .i64 r1, .int .i64 r2, .int .i64 r3] : Array Value)[o]?) ∧
     (∀ o, w'.cell? ⟨N, o, none⟩ = (#[.int .u8 b0, .int .u8 b1, .int .u8 b2, .int .i64 (towardI a3 b3 r0), .int .i64 (towardI a4 b4 r1), .int .i64 (towardI a5 b5 r2), .int .i64 (towardI a6 b6 r3)] : Array Value)[o]?) ∧
     Below w.heap.size w w' ∧ N + 1 ≤ w'.heap.size)
     (((try dsimp only); refine ⟨?_, ?_, ?_, ?_, ?_, ?_⟩ <;> first | exact j0 | exact j1 | exact j2 | exact j3 | exact jBd | exact jn | exact rowKeep (by assumption) (by assumption) (by omega) | exact Bt' (by assumption) (by assumption) | exact leKeep (by assumption) (by omega)))
     (first | (go_at_call 17; refine (limit2 _ _ _ _ _ _ _ _ _ _ _ _ _ _ _ _ _ _ _ (by assumption) (by assumption) (by assumption) (by assumption) (by assumption) (by assumption) (by assumption) (by assumption) (by assumption) (by assumption) (by assumption) (by assumption)).mono ?_; rintro e w3 ⟨rfl, hb3⟩))
  obtain ⟨q0, q1, q2, q3, qB, qn⟩ := ‹(∀ o : Nat, _) ∧ _›
  clear j0 j1 j2 j3 jB jn jBd
  have e0 := towardI_self a3 r0
  have e1 := towardI_self a4 r1
  have e2 := towardI_self a5 r2
  have e3 := towardI_self a6 r3
  go_wp2_with fail
  have p0 : ∀ o, w3.drew.cell? ⟨w.heap.size, o, none⟩ = (#[.int .u8 a0, .int .u8 a1, .int .u8 a2, .int .i64 a3, .int .i64 a4, .int .i64 a5, .int .i64 a6] : Array Value)[o]? := q0
  have qBd : Below w.heap.size w w3.drew := qB.drew
  have qnd : N + 1 ≤ w3.drew.heap.size := qn
  go_region_held3 (fun w' => (∀ o, w'.cell? ⟨w.heap.size, o, none⟩ = (#[.int .u8 a0, .int .u8 a1, .int .u8 a2, .int .i64 a3, .int .i64 a4, .int .i64 a5, .int .i64 a6] : Array Value)[o]?) ∧
     (∀ o, w'.cell? ⟨w.heap.size + 1, o, none⟩ = (#[.int .u8 b0, .int .u8 b1, .int .u8 b2, .int .i64 b3, .int .i64 b4, .int .i64 b5, .int .i64 b6] : Array Value)[o]?) ∧
     (∀ o, w'.cell? ⟨w.heap.size + 1 + 1, o, none⟩ = (#[.int .i64 r0, .int .i64 r1, .int .i64 r2, .int .i64 r3] : Array Value)[o]?) ∧
     (∀ o, w'.cell? ⟨N, o, none⟩ = (#[.int .u8 b0, .int .u8 b1, .int .u8 b2, .int .i64 (towardI a3 b3 r0), .int .i64 (towardI a4 b4 r1), .int .i64 (towardI a5 b5 r2), .int .i64 (towardI a6 b6 r3)] : Array Value)[o]?) ∧
     Below w.heap.size w w' ∧ N + 1 ≤ w'.heap.size)
     (((try dsimp only); refine ⟨?_, ?_, ?_, ?_, ?_, ?_⟩ <;> first | exact q0 | exact q1 | exact q2 | exact q3 | exact qBd | exact qnd | exact rowKeep (by assumption) (by assumption) (by omega) | exact Bt' (by assumption) (by assumption) | exact leKeep (by assumption) (by omega)))
     (first | (go_at_call 16; refine (limit1 _ _ _ _ _ _ _ _ _ _ _ _ _ _ _ _ _ _ _ (by assumption) (by assumption) (by assumption) (by assumption) (by assumption) (by assumption) (by assumption) (by assumption) (by assumption) (by assumption) (by assumption) (by assumption)).mono ?_; rintro e w4 ⟨rfl, hb4⟩))
  obtain ⟨s0, s1, s2, s3, sB, sn⟩ := ‹(∀ o : Nat, w4.cell? _ = _) ∧ _›
  go_wp2
  go_ret
  exact ⟨rfl, sB⟩
theorem open_targets {H : Type} {enc : TypeId × Value → H} {w : World} {base : Nat} {spare : Nat → Bool} {held : Bool} {fuel : Nat} {cs : List Value} {x : DataW H × List MemPlace} (h : DataW.trod enc Try.prog w base spare held fuel 40 cs = some x) :
    ∃ (la : Int) (ve : Int) (ph : Int) (ba : Int) (sp : Int) (al : Int) (vs : Int), cs = [.int .u8 la, .int .u8 ve, .int .u8 ph, .int .i64 ba, .int .i64 sp, .int .i64 al, .int .i64 vs] ∧ U8 la ∧ U8 ve ∧ U8 ph ∧ I64 ba ∧ I64 sp ∧ I64 al ∧ I64 vs := by
  obtain ⟨n, hlen, hf⟩ := open_field Try.underlying40 h
  rw [show Try.prog.cellsOf 40 = 7 by kernel_rfl] at hlen
  match cs, hlen with
  | [c0, c1, c2, c3, c4, c5, c6], _ =>
    obtain ⟨y0, h0⟩ := hf 0 _ rfl
    simp [show Try.prog.cellsOf 5 = 1 by kernel_rfl] at h0
    obtain ⟨la, eh0, -, wfla⟩ := DataW.trod_int Try.underlying5 h0
    have kla : U8 la := bounds_u8 wfla
    simp only [List.cons.injEq, and_true] at eh0
    obtain rfl := eh0
    obtain ⟨y1, h1⟩ := hf 1 _ rfl
    simp [show Try.prog.cellsOf 5 = 1 by kernel_rfl] at h1
    obtain ⟨ve, eh1, -, wfve⟩ := DataW.trod_int Try.underlying5 h1
    have kve : U8 ve := bounds_u8 wfve
    simp only [List.cons.injEq, and_true] at eh1
    obtain rfl := eh1
    obtain ⟨y2, h2⟩ := hf 2 _ rfl
    simp [show Try.prog.cellsOf 5 = 1 by kernel_rfl] at h2
    obtain ⟨ph, eh2, -, wfph⟩ := DataW.trod_int Try.underlying5 h2
    have kph : U8 ph := bounds_u8 wfph
    simp only [List.cons.injEq, and_true] at eh2
    obtain rfl := eh2
    obtain ⟨y3, h3⟩ := hf 3 _ rfl
    simp [show Try.prog.cellsOf 2 = 1 by kernel_rfl] at h3
    obtain ⟨ba, eh3, -, wfba⟩ := DataW.trod_int Try.underlying2 h3
    have kba : I64 ba := I64.wf wfba
    simp only [List.cons.injEq, and_true] at eh3
    obtain rfl := eh3
    obtain ⟨y4, h4⟩ := hf 4 _ rfl
    simp [show Try.prog.cellsOf 2 = 1 by kernel_rfl] at h4
    obtain ⟨sp, eh4, -, wfsp⟩ := DataW.trod_int Try.underlying2 h4
    have ksp : I64 sp := I64.wf wfsp
    simp only [List.cons.injEq, and_true] at eh4
    obtain rfl := eh4
    obtain ⟨y5, h5⟩ := hf 5 _ rfl
    simp [show Try.prog.cellsOf 2 = 1 by kernel_rfl] at h5
    obtain ⟨al, eh5, -, wfal⟩ := DataW.trod_int Try.underlying2 h5
    have kal : I64 al := I64.wf wfal
    simp only [List.cons.injEq, and_true] at eh5
    obtain rfl := eh5
    obtain ⟨y6, h6⟩ := hf 6 _ rfl
    simp [show Try.prog.cellsOf 2 = 1 by kernel_rfl] at h6
    obtain ⟨vs, eh6, -, wfvs⟩ := DataW.trod_int Try.underlying2 h6
    have kvs : I64 vs := I64.wf wfvs
    simp only [List.cons.injEq, and_true] at eh6
    obtain rfl := eh6
    exact ⟨la, ve, ph, ba, sp, al, vs, rfl, kla, kve, kph, kba, ksp, kal, kvs⟩
theorem open_targets_v {H : Type} {enc : TypeId × Value → H} {w : World} {base b0 : Nat} {spare : Nat → Bool} {held : Bool} {r : Reach} {v : Value} {d : DataW H} {p : List MemPlace} (hv : Value.okWide Try.prog w r b0 40 v) (h : DataW.Trod enc Try.prog w base spare held 40 v d p) :
    ∃ (la : Int) (ve : Int) (ph : Int) (ba : Int) (sp : Int) (al : Int) (vs : Int), v = .agg #[.int .u8 la, .int .u8 ve, .int .u8 ph, .int .i64 ba, .int .i64 sp, .int .i64 al, .int .i64 vs] ∧ U8 la ∧ U8 ve ∧ U8 ph ∧ I64 ba ∧ I64 sp ∧ I64 al ∧ I64 vs := by
  obtain ⟨cs, rfl, _⟩ := okWide_struct Try.underlying40 hv
  obtain ⟨fuel, hf⟩ := h
  obtain ⟨la, ve, ph, ba, sp, al, vs, e, q0, q1, q2, q3, q4, q5, q6⟩ := open_targets hf
  exact ⟨la, ve, ph, ba, sp, al, vs, congrArg Value.agg (by apply Array.toList_inj.1; exact e), q0, q1, q2, q3, q4, q5, q6⟩
theorem open_rates {H : Type} {enc : TypeId × Value → H} {w : World} {base : Nat} {spare : Nat → Bool} {held : Bool} {fuel : Nat} {cs : List Value} {x : DataW H × List MemPlace} (h : DataW.trod enc Try.prog w base spare held fuel 42 cs = some x) :
    ∃ (rb : Int) (rs : Int) (ra : Int) (rv : Int), cs = [.int .i64 rb, .int .i64 rs, .int .i64 ra, .int .i64 rv] ∧ I64 rb ∧ I64 rs ∧ I64 ra ∧ I64 rv := by
  obtain ⟨n, hlen, hf⟩ := open_field Try.underlying42 h
  rw [show Try.prog.cellsOf 42 = 4 by kernel_rfl] at hlen
  match cs, hlen with
  | [c0, c1, c2, c3], _ =>
    obtain ⟨y0, h0⟩ := hf 0 _ rfl
    simp [show Try.prog.cellsOf 2 = 1 by kernel_rfl] at h0
    obtain ⟨rb, eh0, -, wfrb⟩ := DataW.trod_int Try.underlying2 h0
    have krb : I64 rb := I64.wf wfrb
    simp only [List.cons.injEq, and_true] at eh0
    obtain rfl := eh0
    obtain ⟨y1, h1⟩ := hf 1 _ rfl
    simp [show Try.prog.cellsOf 2 = 1 by kernel_rfl] at h1
    obtain ⟨rs, eh1, -, wfrs⟩ := DataW.trod_int Try.underlying2 h1
    have krs : I64 rs := I64.wf wfrs
    simp only [List.cons.injEq, and_true] at eh1
    obtain rfl := eh1
    obtain ⟨y2, h2⟩ := hf 2 _ rfl
    simp [show Try.prog.cellsOf 2 = 1 by kernel_rfl] at h2
    obtain ⟨ra, eh2, -, wfra⟩ := DataW.trod_int Try.underlying2 h2
    have kra : I64 ra := I64.wf wfra
    simp only [List.cons.injEq, and_true] at eh2
    obtain rfl := eh2
    obtain ⟨y3, h3⟩ := hf 3 _ rfl
    simp [show Try.prog.cellsOf 2 = 1 by kernel_rfl] at h3
    obtain ⟨rv, eh3, -, wfrv⟩ := DataW.trod_int Try.underlying2 h3
    have krv : I64 rv := I64.wf wfrv
    simp only [List.cons.injEq, and_true] at eh3
    obtain rfl := eh3
    exact ⟨rb, rs, ra, rv, rfl, krb, krs, kra, krv⟩
theorem open_rates_v {H : Type} {enc : TypeId × Value → H} {w : World} {base b0 : Nat} {spare : Nat → Bool} {held : Bool} {r : Reach} {v : Value} {d : DataW H} {p : List MemPlace} (hv : Value.okWide Try.prog w r b0 42 v) (h : DataW.Trod enc Try.prog w base spare held 42 v d p) :
    ∃ (rb : Int) (rs : Int) (ra : Int) (rv : Int), v = .agg #[.int .i64 rb, .int .i64 rs, .int .i64 ra, .int .i64 rv] ∧ I64 rb ∧ I64 rs ∧ I64 ra ∧ I64 rv := by
  obtain ⟨cs, rfl, _⟩ := okWide_struct Try.underlying42 hv
  obtain ⟨fuel, hf⟩ := h
  obtain ⟨rb, rs, ra, rv, e, q0, q1, q2, q3⟩ := open_rates hf
  exact ⟨rb, rs, ra, rv, congrArg Value.agg (by apply Array.toList_inj.1; exact e), q0, q1, q2, q3⟩
theorem limits_walk (a0_la a0_ve a0_ph a0_ba a0_sp a0_al a0_vs a1_la a1_ve a1_ph a1_ba a1_sp a1_al a1_vs a2_rb a2_rs a2_ra a2_rv : Int) (W : World) (q0 : U8 a0_la) (q1 : U8 a0_ve) (q2 : U8 a0_ph) (q3 : I64 a0_ba) (q4 : I64 a0_sp) (q5 : I64 a0_al) (q6 : I64 a0_vs)
    (p0 : U8 a1_la) (p1 : U8 a1_ve) (p2 : U8 a1_ph) (p3 : I64 a1_ba) (p4 : I64 a1_sp) (p5 : I64 a1_al) (p6 : I64 a1_vs) (r0 : I64 a2_rb) (r1 : I64 a2_rs) (r2 : I64 a2_ra) (r3 : I64 a2_rv) :
    Calls Try.prog 4 #[.agg #[.int .u8 a0_la, .int .u8 a0_ve, .int .u8 a0_ph, .int .i64 a0_ba, .int .i64 a0_sp, .int .i64 a0_al, .int .i64 a0_vs],
      .agg #[.int .u8 a1_la, .int .u8 a1_ve, .int .u8 a1_ph, .int .i64 a1_ba, .int .i64 a1_sp, .int .i64 a1_al, .int .i64 a1_vs], .agg #[.int .i64 a2_rb, .int .i64 a2_rs, .int .i64 a2_ra, .int .i64 a2_rv]] W fun e w' =>
    e = .returned (.bool true) ∧ Below W.heap.size W w' := limits_law _ _ _ _ _ _ _ _ _ _ _ _ _ _ _ _ _ _ W q3 q4 q5 q6 p3 p4 p5 p6 r0 r1 r2 r3
theorem resyncLimits_lifted (os : Os) (started : os.Started) (H : Type) (enc : TypeId × Value → H) :
    ReturnsInHanded {} Try.checked os 4 .any (Rows.resyncLimitsSpec.pre6 enc Try.prog Try.f4 Rows.resyncLimitsRow.domain false) (Rows.resyncLimitsSpec.post enc Try.prog Try.f4 false true false false) := by
  refine returnsInHanded_of_change (C := Try.checked) Try.own started (by kernel_rfl) Try.func4
    (ChangeSpec.witness6 (enc := enc) (C := Try.checked) false ⟨#[], #[.agg #[.int .u8 0, .int .u8 0, .int .u8 0, .int .i64 0, .int .i64 0, .int .i64 0, .int .i64 0], .agg #[.int .u8 0, .int .u8 0, .int .u8 0, .int .i64 0, .int .i64 0, .int .i64 0, .int .i64 0], .agg #[.int .i64 0, .int .i64 0, .int .i64 0, .int .i64 0]], []⟩ 8 (by kernel_rfl) (by kernel_rfl) (by kernel_rfl) (by kernel_rfl)) ?_
  intro W base args ds gs before hval0 hW hcnd _
  have hval : ∀ (j : Nat) t v, Try.f4.params[j]? = some t → args[j]? = some v → Value.okWide Try.prog W .any base t v := hval0
  have hW' := hW
  obtain ⟨p, q, hA0, hV, rfl, hfz, hnd⟩ := hW
  have hA : DataW.TrodAll enc Try.prog W 0 (fun _ => true) true Try.f4.params.toList args.toList ds p := hA0
  have hA1 := hA
  rw [Try.params4] at hA hval
  obtain ⟨v0, vs0, d0, ds0, p0, q0, hargs, rfl, rfl, h0, r0⟩ := trodAll_cons hA
  obtain ⟨v1, vs1, d1, ds1, p1, q1, rfl, rfl, rfl, h1, r1⟩ := trodAll_cons r0
  obtain ⟨v2, vs2, d2, ds2, p2, q2, rfl, rfl, rfl, h2, r2⟩ := trodAll_cons r1
  obtain ⟨rfl, rfl, rfl⟩ := trodAll_nil r2
  obtain rfl : args = #[v0, v1, v2] := by cases args; simp_all
  obtain ⟨rfl, rfl⟩ := trodVars_none hV
  obtain ⟨a0_la, a0_ve, a0_ph, a0_ba, a0_sp, a0_al, a0_vs, rfl, q0_0, q0_1, q0_2, q0_3, q0_4, q0_5, q0_6⟩ := open_targets_v (hval 0 40 v0 rfl rfl) h0
  obtain ⟨a1_la, a1_ve, a1_ph, a1_ba, a1_sp, a1_al, a1_vs, rfl, q1_0, q1_1, q1_2, q1_3, q1_4, q1_5, q1_6⟩ := open_targets_v (hval 1 40 v1 rfl rfl) h1
  obtain ⟨a2_rb, a2_rs, a2_ra, a2_rv, rfl, q2_0, q2_1, q2_2, q2_3⟩ := open_rates_v (hval 2 42 v2 rfl rfl) h2
  simp only [List.append_nil] at hW' hA1
  refine (limits_walk a0_la a0_ve a0_ph a0_ba a0_sp a0_al a0_vs a1_la a1_ve a1_ph a1_ba a1_sp a1_al a1_vs a2_rb a2_rs a2_ra a2_rv W q0_0 q0_1 q0_2 q0_3 q0_4 q0_5 q0_6 q1_0 q1_1 q1_2 q1_3 q1_4 q1_5 q1_6 q2_0 q2_1 q2_2 q2_3).mono fun e W' ⟨he, hg⟩ => ?_
  subst he
  exact ⟨_, rfl, law_post Try.laidOut (by intro t ht; simp only [Try.params4] at ht; revert t; decide +kernel) rfl rfl Try.underlying4 rfl hW' hA1 hg⟩
theorem resyncLimits_holds : Rows.ResyncLimitsSaid :=
  OpenClaim.holds_of_wide 4 Try.f4 rfl rfl rfl rfl rfl rfl rfl ⟨rfl, rfl, rfl, rfl, rfl⟩ rfl rfl rfl rfl rfl (by kernel_rfl) Try.func4 (by kernel_rfl)
    (of_decide_eq_true (by kernel_rfl)) (by unfold Func.isWrapper; first | (rw [if_pos (by decide +kernel)]; kernel_rfl) | (rw [if_neg (by decide +kernel)]; exact ⟨rfl, rfl⟩))
    (fun os started H enc _ => resyncLimits_lifted os started H enc)
#print axioms resyncLimits_holds
end Go.Proofs.Ytolppdcaaoghgaa
