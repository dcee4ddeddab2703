/-
The second engine, part 2: operations taken many at a time, in a region of one order and in a region that draws. Conditions: each lemma's own.
-/
import Derived.Test.YtnidomdebhekiaaGreatG1
namespace Go.Proofs.YtnidomdebhekiaaGreat
set_option linter.unusedVariables false
set_option linter.unusedSimpArgs false
open Go.RowKit
def storeOk (P : Program) (own : Own) (io : Nat) (t : TypeId) (off : Nat) (v : Value) : Bool :=
  match own[io]? with
  | some (some k) => match cellsOfT P t with
    | some m => Nat.beq m v.cells.toList.length && (v.cells.toList.all one1 && Nat.ble (off + v.cells.toList.length) k.cs.length)
    | none => false
  | _ => false
def storeOwn (own : Own) (io off : Nat) (v : Value) : Own :=
  match own[io]? with
  | some (some k) => own.set io (some ⟨k.g, k.t, setRow k.cs off v.cells.toList⟩)
  | _ => own
def execB (P : Program) (ops : Array Oper) (n : Nat) (hs : List (Nat × Nat)) (i : Nat) (own : Own) (sl : Sl) (w : World) : Option (Value × World) :=
  match ops[i]? with
  | none => none
  | some o => match wantB ops o sl with
    | none => none
    | some false => match o.dst with
      | some d => if Nat.blt d n then some (undef, w) else none
      | none => none
    | some true => match hintOf hs i with
      | some io => match o.op with
        | .load t x => match o.dst, evS sl x with
          | some d, some (.pointer (some ⟨g, off, none⟩)) => if Nat.blt d n then (ownLoad P own io t off).map (fun v => (v, w)) else none
          | _, _ => none
        | .store t x y => match o.dst, evS sl x, evS sl y with
          | none, some (.pointer (some ⟨g, off, none⟩)), some v => if storeOk P own io t off v then some (undef, w) else none
          | _, _, _ => none
        | _ => none
      | none => match o.dst with
        | some d => if Nat.blt d n && defd sl o.op then match (execOp (rhoS sl) (bareO o.op o.type)).run P w with
            | .ok (.value v) w' => some (v, w')
            | _ => none
          else none
        | none => none
def idB (ops : Array Oper) (hs : List (Nat × Nat)) (i : Nat) (own : Own) (sl : Sl) : List (Nat × Nat) :=
  match ops[i]? with
  | some o => match hintOf hs i with
    | some io => match o.op with
      | .load _ x => match evS sl x, own[io]? with
        | some (.pointer (some ⟨g, _, _⟩)), some (some k) => [(k.g, g)]
        | _, _ => []
      | .store _ x _ => match evS sl x, own[io]? with
        | some (.pointer (some ⟨g, _, _⟩)), some (some k) => [(k.g, g)]
        | _, _ => []
      | _ => []
    | none => []
  | none => []
def nextB (ops : Array Oper) (hs : List (Nat × Nat)) (i : Nat) (own : Own) (sl : Sl) (v : Value) : Own × Sl :=
  match ops[i]? with
  | none => (own, sl)
  | some o => match o.dst with
    | some d => (own, (d, v) :: sl)
    | none => match hintOf hs i with
      | some io => match o.op with
        | .store t x y => match evS sl x, evS sl y with
          | some (.pointer (some ⟨g, off, none⟩)), some u => (storeOwn own io off u, sl)
          | _, _ => (own, sl)
        | _ => (own, sl)
      | none => (own, sl)
def trB (P : Program) (ops : Array Oper) (n : Nat) (hs : List (Nat × Nat)) : Nat → Nat → Own → Sl → List Value
  | 0, _, _, _ => []
  | k + 1, i, own, sl =>
    let v := ((execB P ops n hs i own sl default).map Prod.fst).getD undef
    v :: trB P ops n hs k (i + 1) (nextB ops hs i own sl v).1 (nextB ops hs i own sl v).2
def chkB (P : Program) (ops : Array Oper) (n : Nat) (hs : List (Nat × Nat)) (w : World) : Nat → Own → Sl → List Value → List (Option (Value × World))
  | _, _, _, [] => []
  | i, own, sl, v :: vs => execB P ops n hs i own sl w :: chkB P ops n hs w (i + 1) (nextB ops hs i own sl v).1 (nextB ops hs i own sl v).2 vs
def idsB (ops : Array Oper) (hs : List (Nat × Nat)) : Nat → Own → Sl → List Value → List (Nat × Nat)
  | _, _, _, [] => []
  | i, own, sl, v :: vs => idB ops hs i own sl ++ idsB ops hs (i + 1) (nextB ops hs i own sl v).1 (nextB ops hs i own sl v).2 vs
def endB (ops : Array Oper) (hs : List (Nat × Nat)) : Nat → Own → Sl → List Value → Own × Sl
  | _, own, sl, [] => (own, sl)
  | i, own, sl, v :: vs => endB ops hs (i + 1) (nextB ops hs i own sl v).1 (nextB ops hs i own sl v).2 vs
section
variable {P : Program} {ops : Array Oper} {Q : Exit → Act → World → Prop} {n : Nat} {g : Gh} {own : Own} {sl : Sl}
theorem runs_of_want {o : Oper} {i : Nat} (hi : ops[i]? = some o) (h : wantB ops o sl = some true) : Runs ops i sl o.dst o.op o.type := by
  refine ⟨o, hi, rfl, rfl, rfl, fun n a hf => ?_⟩
  unfold wantB at h
  cases e : o.guard with
  | none => simp [Region.wanted, e]
  | some q =>
    obtain ⟨j, b⟩ := q
    simp only [e] at h
    cases e1 : dstAt ops j with
    | none => simp [e1] at h
    | some t =>
      simp only [e1] at h
      cases e2 : getS sl t with
      | none => simp [e2] at h
      | some v =>
        simp only [e2] at h
        cases v <;> simp at h
        rename_i c
        subst h
        simp [Region.wanted, e, yielded_of hf e1 e2]
theorem skips_of_want {o : Oper} {i : Nat} (hi : ops[i]? = some o) (h : wantB ops o sl = some false) : Skips ops i sl o.dst := by
  refine ⟨o, hi, rfl, fun n a hf => ?_⟩
  unfold wantB at h
  cases e : o.guard with
  | none => simp [e] at h
  | some q =>
    obtain ⟨j, b⟩ := q
    simp only [e] at h
    cases e1 : dstAt ops j with
    | none => simp [e1] at h
    | some t =>
      simp only [e1] at h
      cases e2 : getS sl t with
      | none => simp [e2] at h
      | some v =>
        simp only [e2] at h
        have hd : Region.wanted o (yielded ops a.tmps) = (yielded ops a.tmps j == some b) := by simp [Region.wanted, e]
        rw [hd]
        by_cases hb : ∃ c, v = .bool c
        · obtain ⟨c, rfl⟩ := hb
          simp at h
          rw [yielded_of hf e1 e2]
          simpa using h
        · have h3 := hf.at_ t _ e2
          have : yielded ops a.tmps j = none := by
            unfold dstAt at e1
            unfold yielded
            rw [e1]
            simp only [Option.bind_some, h3]
            cases v <;> first | rfl | (exact absurd ⟨_, rfl⟩ hb)
          rw [this]
          rfl
theorem wantB_cases (o : Oper) : wantB ops o sl = none ∨ wantB ops o sl = some true ∨ wantB ops o sl = some false := by
  cases wantB ops o sl with
  | none => exact .inl rfl
  | some b => cases b with
    | true => exact .inr (.inl rfl)
    | false => exact .inr (.inr rfl)
theorem ownLoad_yld {io off b : Nat} {t : TypeId} {x : Operand} {ty : TypeId} {p : Psi} {v : Value} (hx : evS sl x = some (.pointer (some ⟨b, off, none⟩))) (h : ownLoad P own io t off = some v) (hid : ∀ k, own[io]? = some (some k) → k.g = b) : Yld P n p own sl (.load t x) ty v := by
  unfold ownLoad at h
  split at h
  · rename_i k hk
    split at h
    · rename_i m hm
      split at h
      · rename_i hle
        injection h with h
        subst h
        have hle : off + m ≤ k.cs.length := by simpa using hle
        have hl : ((k.cs.drop off).take m).length = m := by rw [List.length_take, List.length_drop]; omega
        exact y_loadA hx hk (hid k hk) (by rw [hl]; exact hm) (by rw [hl])
      · cases h
    · split at h
      · rename_i hf
        exact y_load1 hx hk (hid k hk) hf h
      · cases h
  · cases h
theorem step_B {hs : List (Nat × Nat)} {i : Nat} {v : Value} (hx : ∀ w, execB P ops n hs i own sl w = some (v, w)) (hid : ∀ q ∈ idB ops hs i own sl, q.1 = q.2)
    (k : WPr P ops Q n (i + 1) g (nextB ops hs i own sl v).1 (nextB ops hs i own sl v).2) : WPr P ops Q n i g own sl := by
  have h0 := hx default
  unfold execB at h0
  cases ei : ops[i]? with
  | none => simp [ei] at h0
  | some o =>
    simp only [ei] at h0
    rcases wantB_cases (ops := ops) (sl := sl) o with hw | hw | hw
    · simp [hw] at h0
    · simp only [hw] at h0
      have hr := runs_of_want ei hw
      cases eh : hintOf hs i with
      | some io =>
        simp only [eh] at h0
        split at h0
        · rename_i t x hop
          split at h0
          · rename_i d b off hd hp
            split at h0
            · rename_i hlt
              have h1 : ownLoad P own io t off = some v := by
                cases e : ownLoad P own io t off with
                | none => simp [e] at h0
                | some u => simp [e] at h0; rw [h0]
              have hid' : ∀ k, own[io]? = some (some k) → k.g = b := fun k hk => hid (k.g, b) (by simp [idB, ei, eh, hop, hp, hk])
              rw [hd, hop] at hr
              have hn : nextB ops hs i own sl v = (own, (d, v) :: sl) := by simp [nextB, ei, hd]
              rw [hn] at k
              exact wpr_val (i + 1) d _ _ v hr (by simpa using hlt) (ownLoad_yld hp h1 hid') k
            · cases h0
          · cases h0
        · rename_i t x y hop
          split at h0
          · rename_i b off u hd hp hu
            split at h0
            · rename_i hok
              rw [hd, hop] at hr
              unfold storeOk at hok
              split at hok
              · rename_i kb hk
                split at hok
                · rename_i m hm
                  simp only [Bool.and_eq_true] at hok
                  have e1 : m = u.cells.toList.length := Nat.eq_of_beq_eq_true hok.1
                  have hg : kb.g = b := hid (kb.g, b) (by simp [idB, ei, eh, hop, hp, hk])
                  have hn : nextB ops hs i own sl v = (own.set io (some ⟨kb.g, kb.t, setRow kb.cs off u.cells.toList⟩), sl) := by simp [nextB, ei, hd, eh, hop, hp, hu, storeOwn, hk]
                  rw [hn] at k
                  subst hg
                  refine wpr_do (i + 1) _ _ hr (by simp) (e_store hp hu hk rfl (vs := u.cells.toList) (by simp) (by rw [hm, e1]) hok.2.1 hok.2.2 rfl) fun v' g' own' _ ⟨h2, h3⟩ => ?_
                  subst h2; subst h3; exact k
                · cases hok
              · cases hok
            · cases h0
          · cases h0
        · cases h0
      | none =>
        simp only [eh] at h0
        split at h0
        · rename_i d hd
          split at h0
          · rename_i hc
            simp only [Bool.and_eq_true] at hc
            rw [hd] at hr
            have hn : nextB ops hs i own sl v = (own, (d, v) :: sl) := by simp [nextB, ei, hd]
            rw [hn] at k
            refine wpr_val (i + 1) d _ _ v hr (by simpa using hc.1) (y_pure hc.2 fun w => ?_) k
            have hw1 := hx w
            unfold execB at hw1
            simp only [ei, hw, eh, hd, hc.1, hc.2, Bool.and_self, if_true] at hw1
            split at hw1
            · rename_i v' w' hv
              simp only [Option.some.injEq, Prod.mk.injEq] at hw1
              rw [hv, hw1.1, hw1.2]
            · cases hw1
          · cases h0
        · cases h0
    · simp only [hw] at h0
      have hsk := skips_of_want ei hw
      split at h0
      · rename_i d hd
        split at h0
        · rename_i hlt
          simp only [Option.some.injEq, Prod.mk.injEq] at h0
          have hn : nextB ops hs i own sl v = (own, (d, v) :: sl) := by simp [nextB, ei, hd]
          rw [hn, ← h0.1] at k
          rw [hd] at hsk
          exact wpr_skip (i + 1) d hsk (by simpa using hlt) k
        · cases h0
      · cases h0
theorem run_B {hs : List (Nat × Nat)} : ∀ {vs : List Value} {i : Nat} {own : Own} {sl : Sl}, (∀ w, chkB P ops n hs w i own sl vs = vs.map fun v => some (v, w)) → (∀ q ∈ idsB ops hs i own sl vs, q.1 = q.2) →
    WPr P ops Q n (i + vs.length) g (endB ops hs i own sl vs).1 (endB ops hs i own sl vs).2 → WPr P ops Q n i g own sl
  | [], i, own, sl, _, _, k => k
  | v :: vs, i, own, sl, hx, hid, k => by
    refine step_B (hs := hs) (v := v) (fun w => ?_) (fun q hq => hid q (List.mem_append_left _ hq)) ?_
    · have := hx w
      simp only [chkB, List.map_cons, List.cons.injEq] at this
      exact this.1
    · refine run_B (fun w => ?_) (fun q hq => hid q (List.mem_append_right _ hq)) ?_
      · have := hx w
        simp only [chkB, List.map_cons, List.cons.injEq] at this
        exact this.2
      · have e : i + (v :: vs).length = i + 1 + vs.length := by simp only [List.length_cons]; omega
        rw [e] at k
        exact k
theorem ids_eq : ∀ {l : List (Nat × Nat)}, l.map Prod.fst = l.map Prod.snd → ∀ q ∈ l, q.1 = q.2
  | [], _, q, hq => by cases hq
  | x :: l, h, q, hq => by
    simp only [List.map_cons, List.cons.injEq] at h
    rcases List.mem_cons.1 hq with rfl | hq
    · exact h.1
    · exact ids_eq h.2 q hq
theorem endB_len : ∀ (k i : Nat) (hs : List (Nat × Nat)) (own : Own) (sl : Sl), (trB P ops n hs k i own sl).length = k
  | 0, _, _, _, _ => rfl
  | k + 1, i, hs, own, sl => by simp only [trB, List.length_cons]; rw [endB_len]
theorem xBs {i : Nat} (c : Nat) (hs : List (Nat × Nat)) (sl' : Sl) (k : WPr P ops Q n (i + c) g (endB ops hs i own sl (trB P ops n hs c i own sl)).1 sl')
    (h1 : ∀ w, chkB P ops n hs w i own sl (trB P ops n hs c i own sl) = (trB P ops n hs c i own sl).map (fun v => some (v, w)) := by intro w; kernel_rfl)
    (h2 : (idsB ops hs i own sl (trB P ops n hs c i own sl)).map Prod.fst = (idsB ops hs i own sl (trB P ops n hs c i own sl)).map Prod.snd := by kernel_rfl)
    (h3 : sl'.map (fun p => getS (endB ops hs i own sl (trB P ops n hs c i own sl)).2 p.1) = sl'.map (fun p => some p.2) := by kernel_rfl) : WPr P ops Q n i g own sl := by
  refine run_B h1 (ids_eq h2) ?_
  rw [endB_len]
  exact wpq_sub sl' h3 k
theorem xBo {i : Nat} (c : Nat) (hs : List (Nat × Nat)) (own' : Own) (sl' : Sl) (k : WPr P ops Q n (i + c) g own' sl')
    (h1 : ∀ w, chkB P ops n hs w i own sl (trB P ops n hs c i own sl) = (trB P ops n hs c i own sl).map (fun v => some (v, w)) := by intro w; kernel_rfl)
    (h2 : (idsB ops hs i own sl (trB P ops n hs c i own sl)).map Prod.fst = (idsB ops hs i own sl (trB P ops n hs c i own sl)).map Prod.snd := by kernel_rfl)
    (h3 : sl'.map (fun p => getS (endB ops hs i own sl (trB P ops n hs c i own sl)).2 p.1) = sl'.map (fun p => some p.2) := by kernel_rfl)
    (h4 : (endB ops hs i own sl (trB P ops n hs c i own sl)).1 = own' := by kernel_rfl) : WPr P ops Q n i g own sl := by
  subst h4
  exact xBs c hs sl' k h1 h2 h3
theorem xB {i : Nat} (c : Nat) (hs : List (Nat × Nat)) (sl' : Sl) (k : WPr P ops Q n (i + c) g own sl')
    (h1 : ∀ w, chkB P ops n hs w i own sl (trB P ops n hs c i own sl) = (trB P ops n hs c i own sl).map (fun v => some (v, w)) := by intro w; kernel_rfl)
    (h2 : (idsB ops hs i own sl (trB P ops n hs c i own sl)).map Prod.fst = (idsB ops hs i own sl (trB P ops n hs c i own sl)).map Prod.snd := by kernel_rfl)
    (h3 : sl'.map (fun p => getS (endB ops hs i own sl (trB P ops n hs c i own sl)).2 p.1) = sl'.map (fun p => some p.2) := by kernel_rfl)
    (h4 : (endB ops hs i own sl (trB P ops n hs c i own sl)).1 = own := by kernel_rfl) : WPr P ops Q n i g own sl := xBo c hs own sl' k h1 h2 h3 h4
end
end Go.Proofs.YtnidomdebhekiaaGreat
