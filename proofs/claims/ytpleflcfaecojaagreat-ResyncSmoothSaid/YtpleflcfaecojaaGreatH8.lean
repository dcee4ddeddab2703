/-
The third engine, part 8: numbers, comparisons, conversions, parts of structures. Conditions: each lemma's own.
-/
import Derived.WideLaws
import Derived.Test.YtpleflcfaecojaaGreatH7
namespace Go.Proofs.YtpleflcfaecojaaGreat
set_option linter.unusedVariables false
set_option linter.unusedSimpArgs false
open Go.RowKit
def eqT (op : BinOp) (b : Bool) : Tr := match op with
  | .eql => retT (vC (.bool b))
  | .neq => retT (vC (.bool (!b)))
  | _ => .no
def plainC : CV → Option Value
  | .int k x => some (.int k x)
  | .bool b => some (.bool b)
  | .str l => some (.string (mkS l))
  | _ => none
def plainL : List CV → Option (List Value)
  | [] => some []
  | c :: l => match plainC c, plainL l with | some v, some m => some (v :: m) | _, _ => none
def tBinI (op : BinOp) (k j : IntKind) (a b : Int) : Tr := match op with
  | .shl => .grd (decide (0 ≤ b)) (retT (vC (.int k (shlK k a b))))
  | .shr => .grd (decide (0 ≤ b)) (retT (vC (.int k (shrK k a b))))
  | .quo => (match sameK j k with | some _ => .grd (decide (b ≠ 0)) (retT (vC (.int k (k.wrap (a.tdiv b))))) | none => .no)
  | .rem => (match sameK j k with | some _ => .grd (decide (b ≠ 0)) (retT (vC (.int k (a.tmod b)))) | none => .no)
  | op => (match sameK j k, intOp op k a b with | some _, some c => retT (vC c) | _, _ => .no)
def nilT (op : BinOp) (e : Bool) : Tr := match op with
  | .eql => retT (vC (.nb e false))
  | .neq => retT (vC (.nb e true))
  | _ => .no
def isCst : Operand → Bool
  | .const _ => true
  | _ => false
def tBin (P : Program) (sl : List (Nat × SV)) (op : BinOp) (t : TypeId) (x y : Operand) : Tr := match evH sl x, evH sl y with
  | some (.v (.c (.int k a))), some (.v (.c (.int j b))) => tBinI op k j a b
  | some (.v (.c (.bool a))), some (.v (.c (.bool b))) => (match P.underlying t with | some .bool => eqT op (a == b) | _ => .no)
  | some (.v (.c (.str a))), some (.v (.c (.str b))) => (match op with
    | .add => .grd (decide (a.length + b.length ≤ 140737488355328)) (retT (vC (.str (a ++ b))))
    | op => eqT op (a == b))
  | some (.v (.c (.ptr _ _))), some (.v (.c (.k (.pointer none)))) => (match P.underlying t with | some (.pointer _) => eqT op false | _ => .no)
  | some (.v (.c (.el _ _ _))), some (.v (.c (.k (.pointer none)))) => (match P.underlying t with | some (.pointer _) => eqT op false | _ => .no)
  | some (.v (.c (.k (.pointer none)))), some (.v (.c (.k (.pointer none)))) => (match P.underlying t with | some (.pointer _) => eqT op true | _ => .no)
  | some (.v (.c (.ifc _ _))), some (.v (.c (.k .nilIface))) => (match P.underlying t with | some (.interface _) => eqT op false | _ => .no)
  | some (.v (.c (.k .nilIface))), some (.v (.c (.k .nilIface))) => (match P.underlying t, isCst y with | some (.interface _), true => eqT op true | _, _ => .no)
  | some (.v (.c (.k (.slice none 0 0)))), some (.v (.c (.k (.slice none 0 0)))) => (match P.underlying t with | some (.slice _) => eqT op true | _ => .no)
  | some (.v (.c (.ro c xs m))), some (.v (.c (.k (.slice none 0 0)))) => (match P.underlying t with | some (.slice _) => nilT op xs.isEmpty | _ => .no)
  | some (.v (.agg l)), some (.v (.agg m)) => (match plainL l, plainL m, P.eqGuardType P.depth t with
    | some xs, some ys, false => (match eqOf P 9 t (.agg xs.toArray) (.agg ys.toArray) with | some b => eqT op b | none => .no)
    | _, _, _ => .no)
  | _, _ => .no
section
variable {P : Program} {n : Nat} {ty : TypeId} {sl : List (Nat × SV)} {bl bl' : List BV} {v : SV} {f : Nat} {g : Gh} {ρ : Env} {own : Own} {fr : Sl}
theorem plainC_real {c : CV} {u v : Value} (h : plainC c = some u) (hr : RealC g ρ bl c v) : v = u := by
  cases c <;> simp only [plainC, Option.some.injEq, reduceCtorEq] at h <;> subst h
  · exact hr.1
  · exact hr
  · exact hr.1
theorem plainL_real : ∀ {l : List CV} {us vs : List Value}, plainL l = some us → All2 (RealC g ρ bl) l vs → vs = us
  | [], us, [], h, _ => by injection h
  | c :: l, us, v :: vs, h, hr => by
    unfold plainL at h
    split at h
    · rename_i u m h1 h2
      injection h with h; subst h
      rw [plainC_real h1 hr.1, plainL_real h2 hr.2]
    · cases h
  | [], _, _ :: _, _, h => h.elim
  | _ :: _, _, [], _, h => h.elim
theorem eqT_ok {op : BinOp} {t u : TypeId} {x y : Operand} {b : Bool} {vx vy : Operand → Prop} (h : Told f (eqT op b) bl bl' v)
    (hy : ∀ g ρ own fr, Rl g ρ ⟨sl, bl⟩ own fr → Yld P n g.r own fr (.binOp .eql t x y u) ty (.bool b) ∧ Yld P n g.r own fr (.binOp .neq t x y u) ty (.bool (!b))) : EffH P n (.binOp op t x y u) ty sl bl bl' v := by
  unfold eqT at h
  split at h
  · obtain ⟨rfl, rfl⟩ := told_ret h
    exact .of_yld fun g ρ own fr hr => ⟨_, rfl, (hy g ρ own fr hr).1⟩
  · obtain ⟨rfl, rfl⟩ := told_ret h
    exact .of_yld fun g ρ own fr hr => ⟨_, rfl, (hy g ρ own fr hr).2⟩
  · exact h.elim
theorem y_eqRun {t u : TypeId} {x y : Operand} {a b : Value} {r : Bool} {p : Psi} (hx : evS fr x = some a) (hy : evS fr y = some b) (hg : ∀ op w, (eqGuard op t x y a b).run P w = .ok () w) (h1 : ∀ w, (binOp .eql t a b).run P w = .ok (.bool r) w) (h2 : ∀ w, (binOp .neq t a b).run P w = .ok (.bool (!r)) w) :
    Yld P n p own fr (.binOp .eql t x y u) ty (.bool r) ∧ Yld P n p own fr (.binOp .neq t x y u) ty (.bool (!r)) :=
  ⟨fun o ac w e1 e2 hf hr => by simp [execOp, e1, hf.ev hx, hf.ev hy, hg, h1], fun o ac w e1 e2 hf hr => by simp [execOp, e1, hf.ev hx, hf.ev hy, hg, h2]⟩
theorem str_small {a b : List UInt8} (hg : a.length + b.length ≤ 140737488355328) : ¬ (((mkS a).size + (mkS b).size : Nat) : Int) > IntKind.i64.max := by
  rw [mkS_size, mkS_size, show IntKind.i64.max = 9223372036854775807 from rfl]; omega
theorem run_pbool {w : World} (d : Nat) {t : TypeId} {a b : Bool} (ht : P.underlying t = some .bool) : (Op.equalIn (d + 1) t (.bool a) (.bool b)).run P w = .ok (a == b) w := by
  simp [Op.equalIn, run_underlying ht]
theorem tBinI_ok {op : BinOp} {t u : TypeId} {x y : Operand} {k j : IntKind} {a b : Int} (ex : evH sl x = some (vC (.int k a))) (ey : evH sl y = some (vC (.int j b))) (h : Told f (tBinI op k j a b) bl bl' v) : EffH P n (.binOp op t x y u) ty sl bl bl' v := by
  unfold tBinI at h
  split at h
  · obtain ⟨hg, h⟩ := h
    obtain ⟨rfl, rfl⟩ := told_ret h
    refine .of_yld fun g ρ own fr hr => ?_
    obtain ⟨vx, hx1, rfl, hx2⟩ := evH_real hr ex
    obtain ⟨vy, hy1, rfl, hy2⟩ := evH_real hr ey
    exact ⟨_, ⟨rfl, inK_wrap _ _⟩, y_shl hx1 hy1 (of_decide_eq_true hg) rfl⟩
  · obtain ⟨hg, h⟩ := h
    obtain ⟨rfl, rfl⟩ := told_ret h
    refine .of_yld fun g ρ own fr hr => ?_
    obtain ⟨vx, hx1, rfl, hx2⟩ := evH_real hr ex
    obtain ⟨vy, hy1, rfl, hy2⟩ := evH_real hr ey
    exact ⟨_, ⟨rfl, inK_shr _ hx2⟩, y_shr hx1 hy1 (of_decide_eq_true hg) rfl⟩
  · split at h
    · rename_i hk _; obtain ⟨hk⟩ := hk; subst hk
      obtain ⟨hg, h⟩ := h
      obtain ⟨rfl, rfl⟩ := told_ret h
      refine .of_yld fun g ρ own fr hr => ?_
      obtain ⟨vx, hx1, rfl, hx2⟩ := evH_real hr ex
      obtain ⟨vy, hy1, rfl, hy2⟩ := evH_real hr ey
      exact ⟨_, ⟨rfl, inK_wrap _ _⟩, y_quo hx1 hy1 (of_decide_eq_true hg) rfl⟩
    · exact h.elim
  · split at h
    · rename_i hk _; obtain ⟨hk⟩ := hk; subst hk
      obtain ⟨hg, h⟩ := h
      obtain ⟨rfl, rfl⟩ := told_ret h
      refine .of_yld fun g ρ own fr hr => ?_
      obtain ⟨vx, hx1, rfl, hx2⟩ := evH_real hr ex
      obtain ⟨vy, hy1, rfl, hy2⟩ := evH_real hr ey
      exact ⟨_, ⟨rfl, inK_tmod hx2⟩, y_rem hx1 hy1 (of_decide_eq_true hg) rfl⟩
    · exact h.elim
  · split at h
    · rename_i hk c _ hc; obtain ⟨hk⟩ := hk; subst hk
      obtain ⟨rfl, rfl⟩ := told_ret h
      refine .of_yld fun g ρ own fr hr => ?_
      obtain ⟨vx, hx1, rfl, hx2⟩ := evH_real hr ex
      obtain ⟨vy, hy1, rfl, hy2⟩ := evH_real hr ey
      obtain ⟨v, h1, h2⟩ := intOp_ok (P := P) (g := g) (ρ := ρ) (bl := bl') hc
      refine ⟨v, h1, fun o ac w e1 e2 hf hr => ?_⟩
      simp [execOp, e1, hf.ev hx1, hf.ev hy1, eqGuard, h2]
    · exact h.elim
theorem tBin_ok {op : BinOp} {t u : TypeId} {x y : Operand} (h : Told f (tBin P sl op t x y) bl bl' v) : EffH P n (.binOp op t x y u) ty sl bl bl' v := by
  unfold tBin at h
  split at h
  · rename_i k a j b ex ey
    exact tBinI_ok ex ey h
  · rename_i a b ex ey
    split at h
    · rename_i hu
      refine eqT_ok (vx := fun _ => True) (vy := fun _ => True) h fun g ρ own fr hr => ?_
      obtain ⟨vx, hx1, hx2⟩ := evH_real hr ex
      obtain ⟨vy, hy1, hy2⟩ := evH_real hr ey
      have hx2 : vx = .bool a := hx2
      have hy2 : vy = .bool b := hy2
      subst hx2; subst hy2
      have e : ∀ w, (Op.equal t (.bool a) (.bool b)).run P w = .ok (a == b) w := fun w => run_pbool 9999 hu
      exact y_eqRun hx1 hy1 (fun op w => by cases op <;> simp [eqGuard]) (fun w => by simp [binOp, e]) (fun w => by simp [binOp, e])
    · exact h.elim
  · rename_i a b ex ey
    split at h
    · obtain ⟨hg, h⟩ := h
      obtain ⟨rfl, rfl⟩ := told_ret h
      have hg := of_decide_eq_true hg
      refine .of_yld fun g ρ own fr hr => ?_
      obtain ⟨vx, hx1, rfl, hx2⟩ := evH_real hr ex
      obtain ⟨vy, hy1, rfl, hy2⟩ := evH_real hr ey
      refine ⟨.string (mkS (a ++ b)), ⟨rfl, by rw [List.length_append]; exact hg⟩, fun o ac w e1 e2 hf hr => ?_⟩
      have e3 : (Op.stringOp .add (mkS a) (mkS b)).run P w = .ok (.string (mkS (a ++ b))) w := by
        have h1 := str_small hg
        have h2 : mkS a ++ mkS b = mkS (a ++ b) := by
          apply ByteArray.ext
          show (mkS a ++ mkS b).data = (a ++ b).toArray
          rw [ByteArray.data_append]
          simp [mkS]
        simp only [Op.stringOp, if_neg h1, h2]
        rfl
      simp [execOp, e1, hf.ev hx1, hf.ev hy1, eqGuard, binOp, e3]
    · refine eqT_ok (vx := fun _ => True) (vy := fun _ => True) h fun g ρ own fr hr => ?_
      obtain ⟨vx, hx1, rfl, hx2⟩ := evH_real hr ex
      obtain ⟨vy, hy1, rfl, hy2⟩ := evH_real hr ey
      exact ⟨y_eqS hx1 hy1, y_neS hx1 hy1⟩
  · rename_i b off ex ey
    split at h
    · rename_i e hu
      refine eqT_ok (vx := fun _ => True) (vy := fun _ => True) h fun g ρ own fr hr => ?_
      obtain ⟨vx, hx1, _, a, _, rfl⟩ := evH_real hr ex
      obtain ⟨vy, hy1, rfl, _⟩ := evH_real hr ey
      have e : ∀ w, (Op.equal t (.pointer (some (a.add off))) (.pointer none)).run P w = .ok false w := fun w => run_pnil 9999 hu
      exact y_eqRun hx1 hy1 (fun op w => by cases op <;> simp [eqGuard]) (fun w => by simp [binOp, e]) (fun w => by simp [binOp, e])
    · exact h.elim
  · rename_i c x0 off ex ey
    split at h
    · rename_i e hu
      refine eqT_ok (vx := fun _ => True) (vy := fun _ => True) h fun g ρ own fr hr => ?_
      obtain ⟨vx, hx1, a, cs, rfl, _⟩ := evH_real hr ex
      obtain ⟨vy, hy1, rfl, _⟩ := evH_real hr ey
      have e : ∀ w, (Op.equal t (.pointer (some (a.add off))) (.pointer none)).run P w = .ok false w := fun w => run_pnil 9999 hu
      exact y_eqRun hx1 hy1 (fun op w => by cases op <;> simp [eqGuard]) (fun w => by simp [binOp, e]) (fun w => by simp [binOp, e])
    · exact h.elim
  · rename_i ex ey
    split at h
    · rename_i e hu
      refine eqT_ok (vx := fun _ => True) (vy := fun _ => True) h fun g ρ own fr hr => ?_
      obtain ⟨vx, hx1, rfl, _⟩ := evH_real hr ex
      obtain ⟨vy, hy1, rfl, _⟩ := evH_real hr ey
      have e : ∀ w, (Op.equal t (.pointer none) (.pointer none)).run P w = .ok true w := fun w => run_pnil 9999 hu
      exact y_eqRun hx1 hy1 (fun op w => by cases op <;> simp [eqGuard]) (fun w => by simp [binOp, e]) (fun w => by simp [binOp, e])
    · exact h.elim
  · rename_i t0 c ex ey
    split at h
    · rename_i ms hu
      have hm : P.underlying t = some (.interface (P.methodsAt t)) := by unfold Program.methodsAt; rw [hu]
      refine eqT_ok (vx := fun _ => True) (vy := fun _ => True) h fun g ρ own fr hr => ?_
      obtain ⟨vx, hx1, u0, _, rfl⟩ := evH_real hr ex
      obtain ⟨vy, hy1, rfl, _⟩ := evH_real hr ey
      exact y_eqRun hx1 hy1 (fun op w => by cases op <;> simp [eqGuard]) (fun w => run_eql_held_nil w t t0 u0 hm) (fun w => run_neq_held_nil w t t0 u0 hm)
    · exact h.elim
  · rename_i ex ey
    split at h
    · rename_i ms hu hc
      have hm : P.underlying t = some (.interface (P.methodsAt t)) := by unfold Program.methodsAt; rw [hu]
      refine eqT_ok (vx := fun _ => True) (vy := fun _ => True) h fun g ρ own fr hr => ?_
      obtain ⟨vx, hx1, rfl, _⟩ := evH_real hr ex
      obtain ⟨vy, hy1, rfl, _⟩ := evH_real hr ey
      cases y <;> first | (cases hc; done) | skip
      exact y_eqRun hx1 hy1 (fun op w => by cases op <;> simp [eqGuard]) (fun w => run_eql_nil_nil w t hm) (fun w => run_neq_nil_nil w t hm)
    · exact h.elim
  · rename_i ex ey
    split at h
    · rename_i e hu
      refine eqT_ok (vx := fun _ => True) (vy := fun _ => True) h fun g ρ own fr hr => ?_
      obtain ⟨vx, hx1, rfl, _⟩ := evH_real hr ex
      obtain ⟨vy, hy1, rfl, _⟩ := evH_real hr ey
      have e : ∀ w, (Op.equal t (.slice none 0 0) (.slice none 0 0)).run P w = .ok true w := fun w => run_equalIn_nil 9999 hu
      exact y_eqRun hx1 hy1 (fun op w => by cases op <;> simp [eqGuard]) (fun w => by simp [binOp, e]) (fun w => by simp [binOp, e])
    · exact h.elim
  · rename_i c xs m ex ey
    split at h
    · rename_i e hu
      have key : ∀ g ρ own fr, Rl g ρ ⟨sl, bl⟩ own fr → ∃ A : Option Addr, (A.isNone = true → xs.isEmpty = true) ∧ Yld P n g.r own fr (.binOp .eql t x y u) ty (.bool A.isNone) ∧ Yld P n g.r own fr (.binOp .neq t x y u) ty (.bool (!A.isNone)) := fun g ρ own fr hr => by
        obtain ⟨vx, hx1, A, cap, rfl, ha⟩ := evH_real hr ex
        obtain ⟨vy, hy1, rfl, _⟩ := evH_real hr ey
        have e : ∀ w, (Op.equal t (.slice A xs.length cap) (.slice none 0 0)).run P w = .ok A.isNone w := fun w => run_equalIn_nil 9999 hu
        refine ⟨A, fun hA => ?_, y_eqRun hx1 hy1 (fun op w => by cases op <;> simp [eqGuard]) (fun w => by simp [binOp, e]) (fun w => by simp [binOp, e])⟩
        cases xs with
        | nil => rfl
        | cons x0 xs =>
          have hs : ∃ ad, A = some ad := by
            cases m with
            | true =>
              obtain ⟨_, _, _, _, hrow⟩ := Arr.toM ha g.br
              obtain ⟨ad, e, _⟩ := hrow (by simp)
              exact ⟨ad, e⟩
            | false =>
              obtain ⟨_, _, _, _, hrow⟩ := ha
              obtain ⟨ad, e, _⟩ := hrow (by simp)
              exact ⟨ad, e⟩
          obtain ⟨ad, e⟩ := hs
          subst e
          cases hA
      unfold nilT at h
      split at h
      · obtain ⟨rfl, rfl⟩ := told_ret h
        refine .of_yld fun g ρ own fr hr => ?_
        obtain ⟨A, h1, h2, _⟩ := key g ρ own fr hr
        exact ⟨_, ⟨_, rfl, h1⟩, h2⟩
      · obtain ⟨rfl, rfl⟩ := told_ret h
        refine .of_yld fun g ρ own fr hr => ?_
        obtain ⟨A, h1, _, h2⟩ := key g ρ own fr hr
        exact ⟨_, ⟨_, rfl, h1⟩, h2⟩
      · exact h.elim
    · exact h.elim
  · rename_i l m ex ey
    split at h
    · rename_i xs ys hl hm hgd
      split at h
      · rename_i b hb
        refine eqT_ok (vx := fun _ => True) (vy := fun _ => True) h fun g ρ own fr hr => ?_
        obtain ⟨vx, hx1, cs, rfl, hx2⟩ := evH_real hr ex
        obtain ⟨vy, hy1, ds, rfl, hy2⟩ := evH_real hr ey
        rw [plainL_real hl hx2] at hx1
        rw [plainL_real hm hy2] at hy1
        exact ⟨y_eqA hx1 hy1 hgd hb, y_neA hx1 hy1 hgd hb⟩
      · exact h.elim
    · exact h.elim
  · exact h.elim
def tUn (sl : List (Nat × SV)) (op : UnOp) (x : Operand) : Tr := match op, evH sl x with
  | .not, some (.v (.c (.bool b))) => retT (vC (.bool (!b)))
  | .neg, some (.v (.c (.int k a))) => retT (vC (.int k (k.wrap (0 - a))))
  | .xor, some (.v (.c (.int k a))) => retT (vC (.int k (lxorK k (if k.signed then -1 else k.max) a)))
  | _, _ => .no
theorem tUn_ok {op : UnOp} {t : TypeId} {x : Operand} (h : Told f (tUn sl op x) bl bl' v) : EffH P n (.unOp op t x) ty sl bl bl' v := by
  unfold tUn at h
  split at h
  · rename_i b ex
    obtain ⟨rfl, rfl⟩ := told_ret h
    refine .of_yld fun g ρ own fr hr => ?_
    obtain ⟨vx, hx1, hx2⟩ := evH_real hr ex
    have hx2 : vx = .bool b := hx2
    subst hx2
    exact ⟨_, rfl, fun o ac w e1 e2 hf hr => by simp [execOp, e1, hf.ev hx1, Op.unary]⟩
  · rename_i k a ex
    obtain ⟨rfl, rfl⟩ := told_ret h
    refine .of_yld fun g ρ own fr hr => ?_
    obtain ⟨vx, hx1, rfl, _⟩ := evH_real hr ex
    exact ⟨_, ⟨rfl, inK_wrap _ _⟩, fun o ac w e1 e2 hf hr => by simp [execOp, e1, hf.ev hx1, Op.unary, Op.intArith]⟩
  · rename_i k a ex
    obtain ⟨rfl, rfl⟩ := told_ret h
    refine .of_yld fun g ρ own fr hr => ?_
    obtain ⟨vx, hx1, rfl, _⟩ := evH_real hr ex
    exact ⟨_, ⟨rfl, inK_wrap _ _⟩, fun o ac w e1 e2 hf hr => by simp [execOp, e1, hf.ev hx1, Op.unary, Op.intBits, lxorK]⟩
  · exact h.elim
def tConv (P : Program) (sl : List (Nat × SV)) (s d : TypeId) (x : Operand) : Tr := match evH sl x, P.underlying s, P.underlying d with
  | some (.v (.c (.int _ a))), some _, some (.int k) => retT (vC (.int k (k.wrap a)))
  | some (.v (.c (.int _ a))), some _, some .string => .grd (decide (0 ≤ a ∧ a < 128)) (retT (vC (.str [u8 a])))
  | _, _, _ => .no
theorem tConv_ok {s d : TypeId} {x : Operand} (h : Told f (tConv P sl s d x) bl bl' v) : EffH P n (.convert s d x) ty sl bl bl' v := by
  unfold tConv at h
  split at h
  · rename_i j a _ k ex hs hd
    obtain ⟨rfl, rfl⟩ := told_ret h
    refine .of_yld fun g ρ own fr hr => ?_
    obtain ⟨vx, hx1, rfl, _⟩ := evH_real hr ex
    exact ⟨_, ⟨rfl, inK_wrap _ _⟩, y_conv hx1 (by rw [hs]; rfl) hd rfl⟩
  · rename_i j a u ex hs hd
    obtain ⟨hc, h⟩ := h
    have hc := of_decide_eq_true hc
    obtain ⟨rfl, rfl⟩ := told_ret h
    refine .of_yld fun g ρ own fr hr => ?_
    obtain ⟨vx, hx1, rfl, _⟩ := evH_real hr ex
    have he : Utf8.encode a = mkS [u8 a] := by
      have h1 : Utf8.valid a = true := by simp [Utf8.valid]; omega
      have h2 : a.toNat < 128 := by omega
      simp [Utf8.encode, h1, h2, mkS, u8]
    refine ⟨_, ⟨rfl, by simp⟩, fun o ac w e1 e2 hf hr' => ?_⟩
    simp only [execOp, e1, hf.ev hx1]
    simp [convert, run_underlying hs, run_underlying hd, Conv.intToString, he]
  · exact h.elim
def tExtract (sl : List (Nat × SV)) (x : Operand) (i : Nat) : Tr := match evH sl x with
  | some (.tup l) => (match l[i]? with | some v => retT (.v v) | none => .no)
  | _ => .no
theorem tExtract_ok {x : Operand} {i : Nat} (h : Told f (tExtract sl x i) bl bl' v) : EffH P n (.extract x i) ty sl bl bl' v := by
  unfold tExtract at h
  split at h
  · rename_i l ex
    split at h
    · rename_i u hu
      obtain ⟨rfl, rfl⟩ := told_ret h
      refine .of_yld fun g ρ own fr hr => ?_
      obtain ⟨vx, hx1, vs, rfl, hx2⟩ := evH_real hr ex
      obtain ⟨w, h1, h2⟩ := hx2.get hu
      exact ⟨w, h2, fun o ac w' e1 e2 hf hr => by simp [execOp, e1, hf.ev hx1, Instr.extract, h1]⟩
    · exact h.elim
  · exact h.elim
def tNil (sl : List (Nat × SV)) (x : Operand) : Tr := match evH sl x with
  | some (.v (.c (.ptr b off))) => retT (vC (.ptr b off))
  | some (.v (.c (.el c x off))) => retT (vC (.el c x off))
  | some (.v (.c (.eo b c i off))) => retT (vC (.eo b c i off))
  | some (.v (.c (.fn f))) => retT (vC (.fn f))
  | some (.v (.c (.ifc t c))) => retT (vC (.ifc t c))
  | _ => .no
theorem tNil_ok {x : Operand} (h : Told f (tNil sl x) bl bl' v) : EffH P n (.nilCheck x) ty sl bl bl' v := by
  unfold tNil at h
  split at h
  · rename_i ex
    obtain ⟨rfl, rfl⟩ := told_ret h
    refine .of_yld fun g ρ own fr hr => ?_
    obtain ⟨vx, hx1, hx2⟩ := evH_real hr ex
    refine ⟨vx, hx2, ?_⟩
    obtain ⟨_, a, _, rfl⟩ := hx2
    exact fun o ac w' e1 e2 hf hr => by simp [execOp, e1, hf.ev hx1]
  · rename_i ex
    obtain ⟨rfl, rfl⟩ := told_ret h
    refine .of_yld fun g ρ own fr hr => ?_
    obtain ⟨vx, hx1, hx2⟩ := evH_real hr ex
    refine ⟨vx, hx2, ?_⟩
    obtain ⟨a, cs, rfl, _⟩ := hx2
    exact fun o ac w' e1 e2 hf hr => by simp [execOp, e1, hf.ev hx1]
  · rename_i ex
    obtain ⟨rfl, rfl⟩ := told_ret h
    refine .of_yld fun g ρ own fr hr => ?_
    obtain ⟨vx, hx1, hx2⟩ := evH_real hr ex
    refine ⟨vx, hx2, ?_⟩
    obtain ⟨_, a, _, rfl, _⟩ := hx2
    exact fun o ac w' e1 e2 hf hr => by simp [execOp, e1, hf.ev hx1]
  · rename_i ex
    obtain ⟨rfl, rfl⟩ := told_ret h
    refine .of_yld fun g ρ own fr hr => ?_
    obtain ⟨vx, hx1, hx2⟩ := evH_real hr ex
    refine ⟨vx, hx2, ?_⟩
    have hx2 : vx = _ := hx2
    subst hx2
    exact fun o ac w' e1 e2 hf hr => by simp [execOp, e1, hf.ev hx1]
  · rename_i ex
    obtain ⟨rfl, rfl⟩ := told_ret h
    refine .of_yld fun g ρ own fr hr => ?_
    obtain ⟨vx, hx1, hx2⟩ := evH_real hr ex
    refine ⟨vx, hx2, ?_⟩
    obtain ⟨u, _, rfl⟩ := hx2
    exact fun o ac w' e1 e2 hf hr => by simp [execOp, e1, hf.ev hx1]
  · exact h.elim
end
end Go.Proofs.YtpleflcfaecojaaGreat
