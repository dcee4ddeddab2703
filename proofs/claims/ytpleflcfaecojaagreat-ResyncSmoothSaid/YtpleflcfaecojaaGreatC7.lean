/-
The collector. Conditions: each lemma's own.
-/
import Derived.Test.YtpleflcfaecojaaGreatC6
namespace Go.Proofs.YtpleflcfaecojaaGreat
set_option linter.unusedVariables false
set_option linter.unusedSimpArgs false
set_option maxRecDepth 100000
open Go.RowKit
structure Co where
  base : Int
  count : Int
  ps : List (List UInt8)
  ss : List ST
def Co.e (c : Co) : (Int × Int) × List (List UInt8) × List ST := ((c.base, c.count), c.ps, c.ss)
def noCo : Co := ⟨0, 0, [], []⟩
def Co.want (c : Co) : Int × Int := (c.base, (c.ps.length : Int))
def Se.t (x : Se) : ST := (x.steps, x.cycle, x.fresh, x.in_)
def Co.misses (c : Co) (x : Se) (came : Bool) : Bool := !came || (x.steps != IntKind.i64.wrap (c.base + (c.ss.length : Int)) || (x.fresh || decide ((c.ss.length : Int) ≥ (c.ps.length : Int))))
def Co.note (c : Co) (x : Se) (came : Bool) : Co := cond ((c.ps.length : Int) == 0) c (cond (c.misses x came) noCo { c with ss := c.ss ++ [x.t] })
theorem o78_eq {c : Co} {x : Se} {came : Bool} (hx : x.in_.length ≤ 1000000) (hc : c.ss.length ≤ 1000000) : o78 x.e came (c.base, c.count) c.ps c.ss = some (c.note x came).e := by
  unfold o78 Co.note
  refine cnd_ext (c := (c.ps.length : Int) == 0) (F := Co.e) rfl ?_
  refine (bdS (t := ((c.misses x came, c.base, c.count), c.ps, c.ss, x.e)) ?_).trans ?_
  · unfold Co.misses
    show cnd (!came) _ (cnd (x.steps != IntKind.i64.wrap (c.base + (c.ss.length : Int))) _ (cnd x.fresh _ _)) = _
    cases came <;> cases (x.steps != IntKind.i64.wrap (c.base + (c.ss.length : Int))) <;> cases hf : x.fresh <;> (simp only [Se.e, hf]; rfl)
  · refine cnd_ext (F := Co.e) rfl ?_
    refine (bdS (o33_eq (l := x.in_) (by omega))).trans ((gdT (dt ?_)).trans rfl)
    show (c.ss.length + 1) * 48 ≤ 140737488355328
    omega
def Co.fitsP (c : Co) (p : PT) : Bool := decide ((c.ps.length : Int) > 0) && (p.1 == c.base && (p.2.2.1 == c.count && p.2.1 == (c.ps.length : Int)))
def Co.take (c : Co) (p : PT) : Co := cond (validP p) (cond (c.fitsP p) { c with ps := c.ps ++ [p.2.2.2] } (cond (p.2.1 == 0) ⟨p.1, p.2.2.1, [p.2.2.2], []⟩ c)) c
theorem o126_eq {c : Co} (b i n : Int) (d : List UInt8) (hd : d.length ≤ 1000000) (hc : c.ps.length ≤ 1000000) : o126 ((b, i), n, d) (c.base, c.count) c.ps c.ss = some (c.take (b, i, n, d)).e := by
  unfold o126 Co.take
  refine (bdS (o124_eq b i n d)).trans ?_
  refine cndN_ext (c := validP (b, i, n, d)) (F := Co.e) ?_ rfl
  refine (bdS (t := ((c.fitsP (b, i, n, d), c.base, c.count), c.ps, c.ss, (b, i), n, d)) ?_).trans ?_
  · unfold Co.fitsP
    show cnd (decide ((c.ps.length : Int) > 0)) (cnd (b == c.base) (cnd (n == c.count) _ _) _) _ = _
    cases decide ((c.ps.length : Int) > 0) <;> cases (b == c.base) <;> cases (n == c.count) <;> rfl
  · refine cnd_ext (F := Co.e) ?_ ?_
    · refine (bdS (o33_eq (l := d) (by omega))).trans ((gdT (dt ?_)).trans rfl)
      show (c.ps.length + 1) * 24 ≤ 140737488355328
      omega
    · refine cnd_ext (F := Co.e) ?_ rfl
      exact bdS (o33_eq (l := d) (by omega))
theorem o159_eq {k : Nat} (h : k ≤ 100000000) : o159 (k : Int) = some [] := by
  unfold o159
  have e0 : IntKind.i64.wrap ((0 : Int) - 0) = 0 := rfl
  rw [cndF (df (by omega)), e0, show ((k : Int) - 0) = (k : Int) by omega, wr64 (by omega)]
  by_cases hk : (k : Int) > 0
  · rw [cndT (dt hk), gdT (dt (by decide)), gdT (dt (by omega)), gdT (dt (by omega))]
    rfl
  · rw [cndF (df hk)]
theorem flatten_take_len (l : List (List UInt8)) (i : Nat) (hl : ∀ x ∈ l, x.length ≤ 1000) : (l.take i).flatten.length ≤ 1000 * i := by
  induction l generalizing i with
  | nil => simp
  | cons x l ih =>
    cases i with
    | zero => simp
    | succ i =>
      have h1 := ih i (fun y hy => hl y (List.mem_cons_of_mem _ hy))
      have h2 := hl x (List.mem_cons_self ..)
      simp only [List.take_succ_cons, List.flatten_cons, List.length_append]
      omega
theorem flatten_take_succ (l : List (List UInt8)) {i : Nat} (h : i < l.length) : (l.take (i + 1)).flatten = (l.take i).flatten ++ l.getD i [] := by
  rw [List.take_add_one, List.flatten_append, List.getElem?_eq_getElem h, getD_of h]
  simp
theorem o152_eq {l : List (List UInt8)} (hl : l.length ≤ 2000) (hx : ∀ x ∈ l, x.length ≤ 1000) : o152 l = some l.flatten := by
  unfold o152
  refine loop_from (fun i => ((l, (((l.take i).flatten.length : Nat) : Int)), l, (l.length : Int), ((i : Nat) : Int))) l.length rfl (fun i hi => ?_) ?_ (by omega)
  · have h1 := flatten_take_len l i hx
    have h2 : (l.getD i []).length ≤ 1000 := by rw [getD_of hi]; exact hx _ (List.getElem_mem hi)
    unfold o152_b1
    refine (cndT (dt (by show (i : Int) < (l.length : Int); omega))).trans ((gdT (dt (by show (0 : Int) ≤ i ∧ (i : Int) < (l.length : Int); omega))).trans ?_)
    dsimp only
    rw [show (i : Int).toNat = i from rfl, show IntKind.i64.wrap ((((l.take i).flatten.length : Nat) : Int) + (((l.getD i []).length : Nat) : Int)) = (((l.take (i + 1)).flatten.length : Nat) : Int) by
      rw [wr64 (by omega), flatten_take_succ l hi, List.length_append]; omega]
    rw [cndF (df (by omega)), wr64 (by omega)]
    rfl
  · have h1 := flatten_take_len l l.length hx
    unfold o152_b1
    refine (cndF (df (by show ¬ (l.length : Int) < (l.length : Int); omega))).trans ?_
    dsimp only
    rw [o159_eq (by omega), bdI]
    refine (congrArg dnO (loop_from (r := l.flatten) (fun i => ((l, (l.length : Int)), ((i : Nat) : Int), (l.take i).flatten)) l.length rfl (fun i hi => ?_) ?_ (by omega))).trans (dnS _)
    · have h3 := flatten_take_len l i hx
      have h2 : (l.getD i []).length ≤ 1000 := by rw [getD_of hi]; exact hx _ (List.getElem_mem hi)
      unfold o152_b0
      refine (cndT (dt (by show (i : Int) < (l.length : Int); omega))).trans ((gdT (dt (by show (0 : Int) ≤ i ∧ (i : Int) < (l.length : Int); omega))).trans ((gdT (dt ?_)).trans ?_))
      · show ((l.take i).flatten.length + (l.getD i []).length) * 1 ≤ 140737488355328
        omega
      · dsimp only
        rw [show (i : Int).toNat = i from rfl, ← flatten_take_succ l hi, wr64 (by omega)]
        rfl
    · unfold o152_b0
      refine (cndF (df (by show ¬ (l.length : Int) < (l.length : Int); omega))).trans ?_
      dsimp only
      rw [List.take_length]
      exact dnS _
theorem o151_eq {l : List ST} (h : l.length ≤ 1000000) : o151 l = some l := by
  unfold o151
  rw [nlO_eq fun e => ?_]
  · rw [gdT (dt (by simp; omega))]; rfl
  · have : l = [] := by simpa using e
    subst this
    rfl
def Co.ready (c : Co) : Bool := !((c.ps.length : Int) == 0 || (c.ps.length : Int) != c.count)
theorem setD_same {α : Type} {l : List α} {i : Nat} {d : α} (h : i < l.length) : l.set i (l.getD i d) = l := by
  rw [getD_of h]; exact List.set_getElem_self h
theorem o127_eq {c : Co} (hs : c.ss.length ≤ 1000000) (hi : ∀ x ∈ c.ss, x.2.2.2.length ≤ 1000000) (hl : c.ps.length ≤ 2000) (hx : ∀ x ∈ c.ps, x.length ≤ 1000) :
    o127 c.e = some (cond c.ready ((c.base, true), c.ps.flatten, c.ss) ((0, false), [], [])) := by
  unfold o127
  refine (bdS (t := (!c.ready, c.e)) ?_).trans ?_
  · unfold Co.ready
    show cnd ((c.ps.length : Int) == 0) _ _ = _
    rw [Bool.not_not]
    cases ((c.ps.length : Int) == 0) <;> rfl
  refine cndN_ext (c := c.ready) (F := fun x => x) ?_ rfl
  refine (bdS (o151_eq hs)).trans ?_
  refine loop_from (fun i => (((c.ss.length : Int), ((i : Nat) : Int)), c.e, c.ss)) c.ss.length rfl (fun i hi' => ?_) ?_ (by omega)
  · have h2 : (c.ss.getD i (0, 0, false, [])).2.2.2.length ≤ 1000000 := by rw [getD_of hi']; exact hi _ (List.getElem_mem hi')
    unfold o127_b0
    refine (cndT (dt (by show (i : Int) < (c.ss.length : Int); omega))).trans ((gdT (dt (by show (0 : Int) ≤ i ∧ (i : Int) < (c.ss.length : Int); omega))).trans ((bdS (o33_eq (Nat.le_trans h2 (by decide)))).trans ((gdT (dt (by show (0 : Int) ≤ i ∧ (i : Int) < (c.ss.length : Int); omega))).trans ?_)))
    dsimp only
    rw [show (i : Int).toNat = i from rfl, wr64 (by omega)]
    have := setD_same (l := c.ss) (d := ((0 : Int), (0 : Int), false, ([] : List UInt8))) hi'
    exact congrArg (fun z => some (Ctl.go (((c.ss.length : Int), ((i + 1 : Nat) : Int)), c.e, z))) this
  · unfold o127_b0
    refine (cndF (df (by show ¬ (c.ss.length : Int) < (c.ss.length : Int); omega))).trans ?_
    exact (congrArg dnO (bdS (o152_eq hl hx))).trans (dnS _)
def Nd.adopt (n : Nd) (s : Int) : Nd × Int := cond (n.next != 0 || n.role != 1) (n, 8) (cond (decide (s < 1) || decide (s > 4611686018427387904)) (n, 1) ({ n with role := 3, steps := s }, 0))
theorem o128_eq (n : Nd) (s : Int) : o128 s n.e = some ((n.adopt s).2, (n.adopt s).1.e) := by
  unfold o128 Nd.adopt
  refine (bdS (t := (s, n.next != 0 || n.role != 1, n.e)) ?_).trans ?_
  · show cnd (n.next != 0) _ _ = _
    cases (n.next != 0) <;> rfl
  refine cnd_ext (F := fun x : Nd × Int => (x.2, x.1.e)) rfl ?_
  refine (bdS (t := (s, decide (s < 1) || decide (s > 4611686018427387904), n.e)) ?_).trans ?_
  · show cnd (decide (s < 1)) _ _ = _
    cases decide (s < 1) <;> rfl
  exact cnd_ext (F := fun x : Nd × Int => (x.2, x.1.e)) rfl rfl
end Go.Proofs.YtpleflcfaecojaaGreat
