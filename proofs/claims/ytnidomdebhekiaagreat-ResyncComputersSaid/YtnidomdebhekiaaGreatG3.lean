/-
The second engine, part 3: single operations, calls and returns, with all that is to be checked as closed equations. Conditions: each lemma's own.
-/
import Derived.Test.YtnidomdebhekiaaGreatG2
namespace Go.Proofs.YtnidomdebhekiaaGreat
set_option linter.unusedVariables false
set_option linter.unusedSimpArgs false
open Go.RowKit
def opOf (ops : Array Oper) (i : Nat) : Op := match ops[i]? with | some o => o.op | none => .move (.tmp 0)
def tyOf (ops : Array Oper) (i : Nat) : TypeId := match ops[i]? with | some o => o.type | none => 0
def dN (ops : Array Oper) (i : Nat) : Nat := match ops[i]? with | some o => o.dst.getD 0 | none => 0
def okV (ops : Array Oper) (n i : Nat) (sl : Sl) : Bool := match ops[i]? with
  | some o => match wantB ops o sl, o.dst with
    | some true, some d => Nat.blt d n
    | _, _ => false
  | none => false
def okD (ops : Array Oper) (i : Nat) (sl : Sl) : Bool := match ops[i]? with
  | some o => match wantB ops o sl, o.dst with
    | some true, none => true
    | _, _ => false
  | none => false
section
variable {P : Program} {ops : Array Oper} {Q : Exit → Act → World → Prop} {n : Nat} {g : Gh} {own : Own} {sl : Sl}
theorem okV_runs {i : Nat} (h : okV ops n i sl = true) : Runs ops i sl (some (dN ops i)) (opOf ops i) (tyOf ops i) ∧ dN ops i < n := by
  unfold okV at h
  split at h
  · rename_i o hi
    split at h
    · rename_i d hw hd
      have := runs_of_want hi hw
      rw [hd] at this
      have e1 : dN ops i = d := by simp [dN, hi, hd]
      have e2 : opOf ops i = o.op := by simp [opOf, hi]
      have e3 : tyOf ops i = o.type := by simp [tyOf, hi]
      rw [e1, e2, e3]
      exact ⟨this, by simpa using h⟩
    · cases h
  · cases h
theorem okD_runs {i : Nat} (h : okD ops i sl = true) : Runs ops i sl none (opOf ops i) (tyOf ops i) := by
  unfold okD at h
  split at h
  · rename_i o hi
    split at h
    · rename_i hw hd
      have := runs_of_want hi hw
      rw [hd] at this
      have e2 : opOf ops i = o.op := by simp [opOf, hi]
      have e3 : tyOf ops i = o.type := by simp [tyOf, hi]
      rw [e2, e3]
      exact this
    · cases h
  · cases h
theorem xV {i : Nat} {v : Value} (hy : Yld P n g.r own sl (opOf ops i) (tyOf ops i) v) (k : WPr P ops Q n (i + 1) g own ((dN ops i, v) :: sl)) (h : okV ops n i sl = true := by kernel_rfl) : WPr P ops Q n i g own sl := by
  obtain ⟨hr, hd⟩ := okV_runs h
  exact wpr_val (i + 1) _ _ _ v hr (by simpa using hd) hy k
theorem xE {i : Nat} {R : Value → Gh → Own → Prop} (hy : Eff P n g own sl (opOf ops i) (tyOf ops i) R) (k : ∀ v g' own', g.le g' → R v g' own' → WPr P ops Q n (i + 1) g' own' ((dN ops i, v) :: sl)) (h : okV ops n i sl = true := by kernel_rfl) : WPr P ops Q n i g own sl := by
  obtain ⟨hr, hd⟩ := okV_runs h
  exact wpr_eff (i + 1) _ _ _ hr (by simpa using hd) hy k
theorem xD {i : Nat} {R : Value → Gh → Own → Prop} (hy : Eff P n g own sl (opOf ops i) (tyOf ops i) R) (k : ∀ v g' own', g.le g' → R v g' own' → WPr P ops Q n (i + 1) g' own' sl) (h : okD ops i sl = true := by kernel_rfl) : WPr P ops Q n i g own sl :=
  wpr_do (i + 1) _ _ (okD_runs h) (by simp) hy k
theorem xRe {i : Nat} (k : WPq (Q .normal) n g own sl) (h : ops.size = i := by kernel_rfl) : WPr P ops Q n i g own sl := wpr_end h k
variable {lds fin : List Nat} {p : Psi} {K : Own}
theorem xDr {C : Code} {pth : List Nat} (id : Nat) (lds fin : List Nat) (K : Own) (sz : Nat) (k : RegOk P (regOf (subR C pth)) Q lds fin → WPa P (regOf (subR C pth)) Q lds fin g.r K sz (List.replicate sz false) n g own sl)
    (h3 : ∀ c (a : Act) (d : Tmp) (v : Value) w, Q (.panic c) (a.put (some d) v) w → Q (.panic c) a w)
    (h : kindC (subR C pth) = 2 := by kernel_rfl) (hm : P.follows .mixedOrders = true := by kernel_rfl) (h1 : finOk (regOf (subR C pth)) lds fin = true := by kernel_rfl) (h2 : Region.noSelect (regOf (subR C pth)) = true := by kernel_rfl) (hsz : (regOf (subR C pth)).size = sz := by kernel_rfl) : WPc P (subR C pth) Q n g own sl := by
  generalize subR C pth = c at h k h1 h2 hsz
  cases c <;> (try (revert h; simp [kindC]; done))
  rename_i i ops d
  cases d
  · simp [kindC] at h
  · exact wpa_start (ops := ops) (id := i) rfl hm lds fin K h1 h2 h3 sz hsz k
def takesB (ops : Array Oper) (lds : List Nat) (hs : List (Nat × Nat)) (i : Nat) (listed : List Bool) : Bool :=
  Region.free .any ops listed.toArray i && ((readyL ops listed).contains i && (match hintOf hs i with | some _ => lds.contains i | none => true))
def setAll : List Bool → List Nat → List Bool
  | l, [] => l
  | l, i :: is => setAll (setL l i) is
def trT (P : Program) (ops : Array Oper) (n : Nat) (hs : List (Nat × Nat)) (K : Own) : List Nat → Sl → List Value
  | [], _ => []
  | i :: is, sl =>
    let v := ((execB P ops n hs i K sl default).map Prod.fst).getD undef
    v :: trT P ops n hs K is ((dN ops i, v) :: sl)
def chkT (P : Program) (ops : Array Oper) (n : Nat) (hs : List (Nat × Nat)) (K : Own) (w : World) : List Nat → Sl → List Value → List (Option (Value × World))
  | i :: is, sl, v :: vs => execB P ops n hs i K sl w :: chkT P ops n hs K w is ((dN ops i, v) :: sl) vs
  | _, _, _ => []
def idsT (ops : Array Oper) (hs : List (Nat × Nat)) (K : Own) : List Nat → Sl → List Value → List (Nat × Nat)
  | i :: is, sl, v :: vs => idB ops hs i K sl ++ idsT ops hs K is ((dN ops i, v) :: sl) vs
  | _, _, _ => []
def endT (ops : Array Oper) : List Nat → Sl → List Value → Sl
  | i :: is, sl, v :: vs => endT ops is ((dN ops i, v) :: sl) vs
  | _, sl, _ => sl
def readsT (ops : Array Oper) (lds : List Nat) (hs : List (Nat × Nat)) : List Nat → List Bool → Bool
  | [], _ => true
  | i :: is, l => takesB ops lds hs i l && ((match ops[i]? with | some o => o.dst.isSome | none => false) && readsT ops lds hs is (setL l i))
theorem step_T {hs : List (Nat × Nat)} {i fuel : Nat} {listed : List Bool} {v : Value} (R : RegOk P ops Q lds fin) (hle : p.le g.r) (hK : keepK K own) (hx : ∀ w, execB P ops n hs i K sl w = some (v, w)) (hid : ∀ q ∈ idB ops hs i K sl, q.1 = q.2)
    (hb : takesB ops lds hs i listed = true) (hd0 : (match ops[i]? with | some o => o.dst.isSome | none => false) = true)
    (k : WPa P ops Q lds fin p K fuel (setL listed i) n g own ((dN ops i, v) :: sl)) : WPa P ops Q lds fin p K (fuel + 1) listed n g own sl := by
  have h0 := hx default
  unfold execB at h0
  cases ei : ops[i]? with
  | none => simp [ei] at h0
  | some o =>
    simp only [ei] at h0 hd0
    obtain ⟨d, hd⟩ := Option.isSome_iff_exists.1 hd0
    have en : dN ops i = d := by simp [dN, ei, hd]
    rw [en] at k
    simp only [takesB, Bool.and_eq_true] at hb
    obtain ⟨hf, hrd, hl⟩ := hb
    rcases wantB_cases (ops := ops) (sl := sl) o with hw | hw | hw
    · simp [hw] at h0
    · simp only [hw] at h0
      have hr := runs_of_want ei hw
      rw [hd] at hr
      cases eh : hintOf hs i with
      | some io =>
        simp only [eh] at h0 hl
        split at h0
        · rename_i t x hop
          split at h0
          · rename_i d' b off hd' hp
            rw [hd] at hd'
            injection hd' with hd'
            subst hd'
            split at h0
            · rename_i hlt
              have h1 : ownLoad P K io t off = some v := by
                cases e : ownLoad P K io t off with
                | none => simp [e] at h0
                | some u => simp [e] at h0; rw [h0]
              have hid' : ∀ k, K[io]? = some (some k) → k.g = b := fun k hk => hid (k.g, b) (by simp [idB, ei, eh, hop, hp, hk])
              rw [hop] at hr
              exact wpa_take i _ d _ _ v R hr (by simp only [Bool.and_eq_true]; exact ⟨hlt, hl, hf, hrd⟩) rfl hle hK (ownLoad_yld hp h1 hid') k
            · cases h0
          · cases h0
        · rename_i t x y hop
          split at h0
          · rename_i b off u hd' hp hu
            rw [hd] at hd'
            cases hd'
          · cases h0
        · cases h0
      | none =>
        simp only [eh] at h0
        split at h0
        · rename_i d' hd'
          rw [hd] at hd'
          injection hd' with hd'
          subst hd'
          split at h0
          · rename_i hc
            simp only [Bool.and_eq_true] at hc
            refine wpa_take0 i _ d _ _ v R hr (by simp only [Bool.and_eq_true]; exact ⟨hc.1, hf, hrd⟩) rfl (fun p => y_pure hc.2 fun w => ?_) k
            have hw1 := hx w
            unfold execB at hw1
            simp only [ei, hw, eh, hd, hc.1, hc.2, Bool.and_self, if_true] at hw1
            split at hw1
            · rename_i v' w' hv
              simp only [Option.some.injEq, Prod.mk.injEq] at hw1
              rw [hv, hw1.1, hw1.2]
            · cases hw1
          · cases h0
        · cases h0
    · simp only [hw] at h0
      have hsk := skips_of_want ei hw
      rw [hd] at hsk
      split at h0
      · rename_i d' hd'
        rw [hd] at hd'
        injection hd' with hd'
        subst hd'
        split at h0
        · rename_i hlt
          simp only [Option.some.injEq, Prod.mk.injEq] at h0
          rw [← h0.1] at k
          exact wpa_takeSkip0 i _ d R hsk (by simp only [Bool.and_eq_true]; exact ⟨hlt, hf, hrd⟩) rfl k
        · cases h0
      · cases h0
theorem run_T {hs : List (Nat × Nat)} : ∀ {is : List Nat} {vs : List Value} {fuel : Nat} {listed : List Bool} {sl : Sl}, RegOk P ops Q lds fin → p.le g.r → keepK K own → is.length = vs.length → (∀ w, chkT P ops n hs K w is sl vs = vs.map fun v => some (v, w)) → (∀ q ∈ idsT ops hs K is sl vs, q.1 = q.2) →
    readsT ops lds hs is listed = true → WPa P ops Q lds fin p K fuel (setAll listed is) n g own (endT ops is sl vs) → WPa P ops Q lds fin p K (fuel + is.length) listed n g own sl
  | [], vs, fuel, listed, sl, _, _, _, _, _, _, _, k => k
  | i :: is, [], fuel, listed, sl, _, _, _, hl, _, _, _, k => by simp at hl
  | i :: is, v :: vs, fuel, listed, sl, R, hle, hK, hl, hx, hid, hr, k => by
    simp only [readsT, Bool.and_eq_true] at hr
    have e : fuel + (i :: is).length = (fuel + is.length) + 1 := by simp only [List.length_cons]; omega
    rw [e]
    refine step_T (hs := hs) (v := v) R hle hK (fun w => ?_) (fun q hq => hid q (List.mem_append_left _ hq)) hr.1 hr.2.1 ?_
    · have := hx w
      simp only [chkT, List.map_cons, List.cons.injEq] at this
      exact this.1
    · refine run_T R hle hK (by simpa using hl) (fun w => ?_) (fun q hq => hid q (List.mem_append_right _ hq)) hr.2.2 k
      have := hx w
      simp only [chkT, List.map_cons, List.cons.injEq] at this
      exact this.2
theorem trT_len {hs : List (Nat × Nat)} : ∀ (is : List Nat) (sl : Sl), is.length = (trT P ops n hs K is sl).length
  | [], _ => rfl
  | i :: is, sl => by simp only [trT, List.length_cons]; rw [← trT_len is]
theorem xT {fuel : Nat} {listed : List Bool} (fuel' : Nat) (is : List Nat) (hs : List (Nat × Nat)) (m : List (Option Nat)) (sl' : Sl) (R : RegOk P ops Q lds fin) (hle : p.le g.r) (k : WPa P ops Q lds fin p K fuel' (setAll listed is) n g own sl')
    (hK : pickP m own = K := by kernel_rfl) (hf : fuel = fuel' + is.length := by kernel_rfl)
    (h1 : ∀ w, chkT P ops n hs K w is sl (trT P ops n hs K is sl) = (trT P ops n hs K is sl).map (fun v => some (v, w)) := by intro w; kernel_rfl)
    (h2 : (idsT ops hs K is sl (trT P ops n hs K is sl)).map Prod.fst = (idsT ops hs K is sl (trT P ops n hs K is sl)).map Prod.snd := by kernel_rfl)
    (h3 : sl'.map (fun p => getS (endT ops is sl (trT P ops n hs K is sl)) p.1) = sl'.map (fun p => some p.2) := by kernel_rfl)
    (h4 : readsT ops lds hs is listed = true := by kernel_rfl) : WPa P ops Q lds fin p K fuel listed n g own sl := by
  subst hf
  exact run_T R hle (keepK_P m hK) (trT_len is sl) h1 (ids_eq h2) h4 (wpq_sub sl' h3 k)
theorem xTv {fuel : Nat} {listed : List Bool} (i : Nat) {v : Value} (m : List (Option Nat)) (R : RegOk P ops Q lds fin) (hle : p.le g.r) (hy : Yld P n p K sl (opOf ops i) (tyOf ops i) v) (k : WPa P ops Q lds fin p K fuel (setL listed i) n g own ((dN ops i, v) :: sl))
    (hK : pickP m own = K := by kernel_rfl) (h : okV ops n i sl = true := by kernel_rfl) (hb : (lds.contains i && (Region.free .any ops listed.toArray i && (readyL ops listed).contains i)) = true := by kernel_rfl) : WPa P ops Q lds fin p K (fuel + 1) listed n g own sl := by
  obtain ⟨hr, hd⟩ := okV_runs h
  exact wpa_take i _ _ _ _ v R hr (by rw [hb]; simpa using hd) rfl hle (keepK_P m hK) hy k
theorem xTp {fuel : Nat} {listed : List Bool} (i : Nat) {v : Value} (R : RegOk P ops Q lds fin) (hy : ∀ p, Yld P n p [] sl (opOf ops i) (tyOf ops i) v) (k : WPa P ops Q lds fin p K fuel (setL listed i) n g own ((dN ops i, v) :: sl))
    (h : okV ops n i sl = true := by kernel_rfl) (hb : (Region.free .any ops listed.toArray i && (readyL ops listed).contains i) = true := by kernel_rfl) : WPa P ops Q lds fin p K (fuel + 1) listed n g own sl := by
  obtain ⟨hr, hd⟩ := okV_runs h
  exact wpa_take0 i _ _ _ _ v R hr (by rw [hb]; simpa using hd) rfl hy k
theorem xO1 {fuel : Nat} {listed : List Bool} (i : Nat) (k : WPi P ops Q lds fin p K fuel listed i n g own sl) (hr : readyL ops listed = [i] := by kernel_rfl) : WPa P ops Q lds fin p K (fuel + 1) listed n g own sl := wpa_one i hr k
theorem xO2 {fuel : Nat} {listed : List Bool} (i i2 : Nat) (k : WPi P ops Q lds fin p K fuel listed i n g own sl) (k2 : WPi P ops Q lds fin p K fuel listed i2 n g own sl) (hr : readyL ops listed = [i, i2] := by kernel_rfl) : WPa P ops Q lds fin p K (fuel + 1) listed n g own sl := wpa_two i i2 hr k k2
theorem xO3 {fuel : Nat} {listed : List Bool} (i i2 i3 : Nat) (k : WPi P ops Q lds fin p K fuel listed i n g own sl) (k2 : WPi P ops Q lds fin p K fuel listed i2 n g own sl) (k3 : WPi P ops Q lds fin p K fuel listed i3 n g own sl) (hr : readyL ops listed = [i, i2, i3] := by kernel_rfl) : WPa P ops Q lds fin p K (fuel + 1) listed n g own sl := wpa_three i i2 i3 hr k k2 k3
theorem xIb {fuel : Nat} {listed : List Bool} {i : Nat} (hs : List (Nat × Nat)) (k : WPa P ops Q lds fin p K fuel (setL listed i) n g own ((dN ops i, ((execB P ops n hs i own sl default).map Prod.fst).getD undef) :: sl))
    (h1 : ∀ w, execB P ops n hs i own sl w = some (((execB P ops n hs i own sl default).map Prod.fst).getD undef, w) := by intro w; kernel_rfl)
    (h2 : (idB ops hs i own sl).map Prod.fst = (idB ops hs i own sl).map Prod.snd := by kernel_rfl) (hd0 : (match ops[i]? with | some o => o.dst.isSome | none => false) = true := by kernel_rfl) : WPi P ops Q lds fin p K fuel listed i n g own sl := by
  generalize ((execB P ops n hs i own sl default).map Prod.fst).getD undef = v at k h1
  have h0 := h1 default
  unfold execB at h0
  cases ei : ops[i]? with
  | none => simp [ei] at h0
  | some o =>
    simp only [ei] at h0 hd0
    obtain ⟨d, hd⟩ := Option.isSome_iff_exists.1 hd0
    have en : dN ops i = d := by simp [dN, ei, hd]
    rw [en] at k
    rcases wantB_cases (ops := ops) (sl := sl) o with hw | hw | hw
    · simp [hw] at h0
    · simp only [hw] at h0
      have hr := runs_of_want ei hw
      rw [hd] at hr
      cases eh : hintOf hs i with
      | some io =>
        simp only [eh] at h0
        split at h0
        · rename_i t x hop
          split at h0
          · rename_i d' b off hd' hp
            rw [hd] at hd'
            injection hd' with hd'
            subst hd'
            split at h0
            · rename_i hlt
              have h1 : ownLoad P own io t off = some v := by
                cases e : ownLoad P own io t off with
                | none => simp [e] at h0
                | some u => simp [e] at h0; rw [h0]
              have hid' : ∀ k, own[io]? = some (some k) → k.g = b := fun k hk => ids_eq h2 (k.g, b) (by simp [idB, ei, eh, hop, hp, hk])
              rw [hop] at hr
              exact wpi_val _ d _ _ v hr hlt (ownLoad_yld hp h1 hid') rfl k
            · cases h0
          · cases h0
        · rename_i t x y hop
          split at h0
          · rename_i b off u hd' hp hu
            rw [hd] at hd'
            cases hd'
          · cases h0
        · cases h0
      | none =>
        simp only [eh] at h0
        split at h0
        · rename_i d' hd'
          rw [hd] at hd'
          injection hd' with hd'
          subst hd'
          split at h0
          · rename_i hc
            simp only [Bool.and_eq_true] at hc
            refine wpi_val _ d _ _ v hr hc.1 (y_pure hc.2 fun w => ?_) rfl k
            have hw1 := h1 w
            unfold execB at hw1
            simp only [ei, hw, eh, hd, hc.1, hc.2, Bool.and_self, if_true] at hw1
            split at hw1
            · rename_i v' w' hv
              simp only [Option.some.injEq, Prod.mk.injEq] at hw1
              rw [hv, hw1.1, hw1.2]
            · cases hw1
          · cases h0
        · cases h0
    · simp only [hw] at h0
      have hsk := skips_of_want ei hw
      rw [hd] at hsk
      split at h0
      · rename_i d' hd'
        rw [hd] at hd'
        injection hd' with hd'
        subst hd'
        split at h0
        · rename_i hlt
          simp only [Option.some.injEq, Prod.mk.injEq] at h0
          rw [← h0.1] at k
          exact wpi_skip _ d hsk hlt rfl k
        · cases h0
      · cases h0
theorem xIe {fuel : Nat} {listed : List Bool} {i : Nat} {R : Value → Gh → Own → Prop} (hle : p.le g.r) (hy : Eff P n g own sl (opOf ops i) (tyOf ops i) R)
    (k : ∀ v g' own', g.le g' → R v g' own' → (fin.contains i = true ∨ keepK K own') ∧ WPa P ops Q lds fin p K fuel (setL listed i) n g' own' ((dN ops i, v) :: sl)) (h : okV ops n i sl = true := by kernel_rfl) : WPi P ops Q lds fin p K fuel listed i n g own sl := by
  obtain ⟨hr, hd⟩ := okV_runs h
  exact wpi_eff _ _ _ _ hr (by simpa using hd) hle hy rfl k
theorem xId {fuel : Nat} {listed : List Bool} {i : Nat} {R : Value → Gh → Own → Prop} (hle : p.le g.r) (hy : Eff P n g own sl (opOf ops i) (tyOf ops i) R)
    (k : ∀ v g' own', g.le g' → R v g' own' → (fin.contains i = true ∨ keepK K own') ∧ WPa P ops Q lds fin p K fuel (setL listed i) n g' own' sl) (h : okD ops i sl = true := by kernel_rfl) : WPi P ops Q lds fin p K fuel listed i n g own sl :=
  wpi_do _ _ _ (okD_runs h) hle hy rfl k
theorem kf {i : Nat} {G : Prop} {own' : Own} (k : G) (h : fin.contains i = true := by kernel_rfl) : (fin.contains i = true ∨ keepK K own') ∧ G := ⟨.inl h, k⟩
theorem kk {i : Nat} {G : Prop} {own' : Own} (m : List (Option Nat)) (k : G) (h : pickP m own' = K := by kernel_rfl) : (fin.contains i = true ∨ keepK K own') ∧ G := ⟨.inr (keepK_P m h), k⟩
theorem xAe {fuel : Nat} {listed : List Bool} (k : WPq (Q .normal) n g own sl) (hr : readyL ops listed = [] := by kernel_rfl) : WPa P ops Q lds fin p K fuel listed n g own sl := wpa_done hr k
end
end Go.Proofs.YtnidomdebhekiaaGreat
