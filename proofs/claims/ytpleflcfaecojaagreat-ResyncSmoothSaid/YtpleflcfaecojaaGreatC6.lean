/-
Pieces of a snapshot, the sender, the collector. Conditions: each lemma's own.
-/
import Derived.Test.YtpleflcfaecojaaGreatC5
import Derived.Test.YtpleflcfaecojaaGreatS4
namespace Go.Proofs.YtpleflcfaecojaaGreat
set_option linter.unusedVariables false
set_option linter.unusedSimpArgs false
set_option maxRecDepth 100000
open Go.RowKit
abbrev PT : Type := Int × Int × Int × List UInt8
abbrev ST : Type := Int × Int × Bool × List UInt8
def pieces (save : List UInt8) : Nat := max ((save.length + 599) / 600) 1
def pcAt (base : Int) (save : List UInt8) (i : Nat) : PT := (base, (i : Int), (pieces save : Int), (save.drop (600 * i)).take (min (600 * (i + 1)) save.length - 600 * i))
def splitL (base : Int) (save : List UInt8) : List PT := (List.range (pieces save)).map (pcAt base save)
def split (base : Int) (save : List UInt8) : Int × List PT := cond (decide (base < 1) || decide (base > 2305843009213693952)) (1, []) (cond (decide ((save.length : Int) > 524288)) (3, []) (0, splitL base save))
theorem o18_eq (base : Int) (save : List UInt8) : o18 base save = some (split base save) := by
  unfold o18 split
  have e : (cnd (decide (base < (1 : Int))) (some (base, save, true)) (some (base, save, (decide (base > (2305843009213693952 : Int)))))) = some (base, save, decide (base < 1) || decide (base > 2305843009213693952)) := by
    cases decide (base < (1 : Int)) <;> rfl
  rw [e, bdI]
  refine cnd_ext (F := fun x => x) rfl ?_
  by_cases hl : ((save.length : Nat) : Int) > 524288
  · refine (cndT (dt hl)).trans ?_
    rw [dt hl]; rfl
  refine (cndF (df hl)).trans ?_
  rw [df hl, cond_false]
  have hn : maxI (IntKind.i64.wrap (Int.tdiv (IntKind.i64.wrap (IntKind.i64.wrap (((save.length : Nat) : Int) + 600) - 1)) 600)) 1 = (pieces save : Int) := by
    rw [show IntKind.i64.wrap (((save.length : Nat) : Int) + 600) = (save.length : Int) + 600 from wr64 (by omega), show IntKind.i64.wrap ((save.length : Int) + 600 - 1) = (save.length : Int) + 599 by rw [wr64 (by omega)]; omega, Int.tdiv_eq_ediv_of_nonneg (by omega), wr64 (by omega)]
    unfold maxI pieces
    split <;> omega
  dsimp only
  rw [hn]
  have hb : pieces save ≤ 874 := by unfold pieces; omega
  have hq : 600 * pieces save ≤ save.length + 600 := by unfold pieces; omega
  refine loop_from (fun i => ((base, save, (pieces save : Int)), (pieces save : Int), ((i : Nat) : Int), (List.range i).map (pcAt base save))) (pieces save) rfl (fun i hi => ?_) ?_ (by omega)
  · have h1 : IntKind.i64.wrap ((i : Int) * 600) = ((600 * i : Nat) : Int) := by rw [wr64 (by omega)]; omega
    have h2 : IntKind.i64.wrap ((i : Int) + 1) = ((i + 1 : Nat) : Int) := by rw [wr64 (by omega)]; omega
    have h3 : IntKind.i64.wrap (((i + 1 : Nat) : Int) * 600) = ((600 * (i + 1) : Nat) : Int) := by rw [wr64 (by omega)]; omega
    have h4 : minI ((600 * (i + 1) : Nat) : Int) ((save.length : Nat) : Int) = ((min (600 * (i + 1)) save.length : Nat) : Int) := by unfold minI; split <;> omega
    unfold o18_b0
    refine (cndT (dt (by show (i : Int) < (pieces save : Int); omega))).trans ?_
    dsimp only
    rw [h1, h2, h3, h4, gdT (dt (by omega)), show ((min (600 * (i + 1)) save.length : Nat) : Int).toNat = min (600 * (i + 1)) save.length from rfl, show ((600 * i : Nat) : Int).toNat = 600 * i from rfl, o33_eq (by simp; omega), bdI, gdT (dt (by simp; omega)), List.range_succ, List.map_append]
    rfl
  · unfold o18_b0
    refine (cndF (df (by show ¬ (pieces save : Int) < (pieces save : Int); omega))).trans ?_
    exact dnS _
def validP (p : PT) : Bool := decide (p.1 ≥ 1) && (decide (p.1 ≤ 2305843009213693952) && (decide (p.2.2.1 ≥ 1) && (decide (p.2.2.1 ≤ 874) && (decide (p.2.1 ≥ 0) && (decide (p.2.1 < p.2.2.1) && decide ((p.2.2.2.length : Int) ≤ 600))))))
theorem o124_eq (b i c : Int) (d : List UInt8) : o124 ((b, i), c, d) = some (validP (b, i, c, d)) := by
  unfold o124 validP
  dsimp only
  cases decide (b ≥ 1) <;> cases decide (b ≤ 2305843009213693952) <;> cases decide (c ≥ 1) <;> cases decide (c ≤ 874) <;> cases decide (i ≥ 0) <;> cases decide (i < c) <;> rfl
theorem o123_eq (b i c : Int) {d : List UInt8} (h : d.length ≤ 100000000) : o123 ((b, i), c, d) = some ((b, i, c), d) := by
  unfold o123
  exact bdS (o33_eq h)
def hit (ps : List PT) (base have_ : Int) : Bool := decide ((ps.length : Int) > 0) && (base == (ps.getD 0 (0, 0, 0, [])).1 && (decide (have_ ≥ 0) && decide (have_ < (ps.length : Int))))
def serve (ps : List PT) (base have_ steps : Int) (save : List UInt8) : List PT × PT × Int :=
  cond (hit ps base have_) (ps, ps.getD have_.toNat (0, 0, 0, []), 0) (cond ((split steps save).1 != 0) (ps, (0, 0, 0, []), (split steps save).1) ((split steps save).2, (split steps save).2.getD 0 (0, 0, 0, []), 0))
def serveE (x : List PT × PT × Int) := (((x.2.1.1, x.2.1.2.1), x.2.1.2.2.1, x.2.2), x.1, x.2.1.2.2.2)
theorem splitL_len (base : Int) (save : List UInt8) : (splitL base save).length = pieces save := by simp [splitL]
theorem pieces_pos (save : List UInt8) : 0 < pieces save := by unfold pieces; omega
theorem pcAt_len (base : Int) (save : List UInt8) (i : Nat) : (pcAt base save i).2.2.2.length ≤ 600 := by
  simp only [pcAt, List.length_take, List.length_drop]
  omega
theorem splitL_data {base : Int} {save : List UInt8} {p : PT} (h : p ∈ splitL base save) : p.2.2.2.length ≤ 600 := by
  simp only [splitL, List.mem_map] at h
  obtain ⟨i, _, rfl⟩ := h
  exact pcAt_len base save i
theorem getD_data {ps : List PT} (hp : ∀ p ∈ ps, p.2.2.2.length ≤ 600) (i : Nat) : (ps.getD i (0, 0, 0, [])).2.2.2.length ≤ 600 := by
  by_cases h : i < ps.length
  · rw [getD_of h]; exact hp _ (List.getElem_mem h)
  · rw [List.getD_eq_getElem?_getD, List.getElem?_eq_none (by omega)]; simp
theorem o81_eq {ps : List PT} {base have_ steps : Int} {save : List UInt8} (hp : ∀ p ∈ ps, p.2.2.2.length ≤ 600) : o81 (base, have_) steps save ps = some (serveE (serve ps base have_ steps save)) := by
  unfold o81 serve
  have d0 : (0 : Int).toNat = 0 := rfl
  refine (bdS (t := ((steps, save), hit ps base have_, ps, base, have_)) ?_).trans ?_
  · unfold hit
    dsimp only
    by_cases h : ((ps.length : Nat) : Int) > 0
    · rw [cndT (dt h), dt h, gdT (dt (by omega)), d0]
      cases (base == (ps.getD 0 ((0 : Int), (0 : Int), (0 : Int), ([] : List UInt8))).1) <;> cases decide (have_ ≥ 0) <;> rfl
    · rw [cndF (df h), df h]; rfl
  by_cases hh : hit ps base have_ = true
  · refine (cndT hh).trans ?_
    rw [hh, cond_true]
    have hr : 0 ≤ have_ ∧ have_ < (ps.length : Int) := by
      unfold hit at hh
      simp only [Bool.and_eq_true, decide_eq_true_eq] at hh
      exact ⟨hh.2.2.1, hh.2.2.2⟩
    refine (gdT (dt hr)).trans ?_
    exact bdS (o123_eq _ _ _ (Nat.le_trans (getD_data hp _) (by decide)))
  · have hh : hit ps base have_ = false := by simpa using hh
    refine (cndF hh).trans ?_
    rw [hh, cond_false]
    refine (bdS (o18_eq steps save)).trans ?_
    have hs : (split steps save).1 = 0 → (split steps save).2 = splitL steps save := by
      unfold split
      cases (decide (steps < 1) || decide (steps > 2305843009213693952)) with
      | true => intro h; cases h
      | false =>
        cases decide ((save.length : Int) > 524288) with
        | true => intro h; cases h
        | false => exact fun _ => rfl
    by_cases hz : (split steps save).1 = 0
    · refine (cndF (neq_f hz)).trans ?_
      rw [neq_f hz, cond_false, d0]
      have e := hs hz
      have hpos := pieces_pos save
      rw [e]
      refine (gdT (dt (by rw [splitL_len]; omega))).trans ?_
      exact bdS (o123_eq _ _ _ (Nat.le_trans (getD_data (fun p hp => splitL_data hp) _) (by decide)))
    · refine (cndT (neq_t hz)).trans ?_
      rw [neq_t hz]; rfl
def encP (p : PT) : Int × List UInt8 := cond (validP p) (0, putB p.1 8 ++ putB p.2.1 2 ++ putB p.2.2.1 2 ++ p.2.2.2) (1, [])
theorem validP_ok {p : PT} (h : validP p = true) : (1 ≤ p.1 ∧ p.1 ≤ 2305843009213693952) ∧ (1 ≤ p.2.2.1 ∧ p.2.2.1 ≤ 874) ∧ (0 ≤ p.2.1 ∧ p.2.1 < p.2.2.1) ∧ p.2.2.2.length ≤ 600 := by
  unfold validP at h
  simp only [Bool.and_eq_true, decide_eq_true_iff] at h
  omega
theorem four_bytes (i c : Int) : [(u8 (IntKind.u8.wrap i)), (u8 (IntKind.u8.wrap (shrK .i64 i 8))), (u8 (IntKind.u8.wrap c)), (u8 (IntKind.u8.wrap (shrK .i64 c 8)))] = putB i 2 ++ putB c 2 := by
  have e : ∀ n : Int, putB n 2 = [u8 (IntKind.u8.wrap n), u8 (IntKind.u8.wrap (shrK .i64 n 8))] := fun n => by
    have h0 : byteAt n 0 = u8 (IntKind.u8.wrap n) := by
      unfold byteAt
      rw [shr_i64 n 0 (by decide), Int.pow_zero, Int.ediv_one]
    have h1 : byteAt n 1 = u8 (IntKind.u8.wrap (shrK .i64 n 8)) := rfl
    rw [putB_succ, putB_succ, putB_zero, h0, h1]; rfl
  rw [e, e]; rfl
theorem o82_eq (b i c : Int) (d : List UInt8) : o82 ((b, i), c, d) = some (encP (b, i, c, d)) := by
  unfold o82 encP
  refine (bdS (o124_eq b i c d)).trans ?_
  cases hv : validP (b, i, c, d) with
  | false => rfl
  | true =>
    obtain ⟨-, -, -, hd⟩ := validP_ok hv
    dsimp only at hd
    refine (cndF rfl).trans ?_
    rw [cond_true]
    refine loop_from (fun k => (((k : Nat) : Int), ((b, i), c, d), putB b k)) 8 rfl (fun k hk => ?_) ?_ (by omega)
    · unfold o82_b0
      refine (cndT (dt (by show (k : Int) < 8; omega))).trans ((gdT (dt (by show (0 : Int) ≤ IntKind.i64.wrap (8 * (k : Int)); rw [wr64 (by omega)]; omega))).trans ((gdT (dt (by show ((putB b k).length + 1) * 1 ≤ 140737488355328; rw [putB_len]; omega))).trans ?_))
      dsimp only
      rw [wr64 (by omega), wr64 (by omega), putB_succ]
      rfl
    · unfold o82_b0
      refine (cndF (df (by show ¬ ((8 : Nat) : Int) < 8; decide))).trans ?_
      dsimp only
      rw [four_bytes, gdT (dt (by simp [putB_len])), gdT (dt (by simp [putB_len]; omega)), dnS]
      simp only [List.append_assoc]
def rawP (p : List UInt8) : PT := (getI p 8, (natL (p.drop 8) 2 : Int), (natL (p.drop 10) 2 : Int), p.drop 12)
def decP (p : List UInt8) : PT × Int := cond (decide ((p.length : Int) < 12)) ((0, 0, 0, []), 4) (cond (validP (rawP p)) (rawP p, 0) ((0, 0, 0, []), 4))
def decE (x : PT × Int) := (((x.1.1, x.1.2.1), x.1.2.2.1, x.2), x.1.2.2.2)
theorem ofInt_i64 (x : Int) : BitVec.ofInt 64 (IntKind.i64.wrap x) = BitVec.ofInt 64 x := by
  apply BitVec.eq_of_toNat_eq
  rw [BitVec.toNat_ofInt, BitVec.toNat_ofInt, IntKind.wrap_i64]
  congr 1
  have : ((2 ^ 64 : Nat) : Int) = 18446744073709551616 := by decide
  rw [this]
  omega
theorem lor_i64 (x y : Int) : lorK .i64 (IntKind.i64.wrap x) (IntKind.i64.wrap y) = IntKind.i64.wrap (lorK .u64 x y) := by
  unfold lorK
  have e1 : BitVec.ofInt IntKind.i64.bits (IntKind.i64.wrap x) = BitVec.ofInt IntKind.u64.bits x := ofInt_i64 x
  have e2 : BitVec.ofInt IntKind.i64.bits (IntKind.i64.wrap y) = BitVec.ofInt IntKind.u64.bits y := ofInt_i64 y
  rw [e1, e2]
  have hlt : (BitVec.ofInt IntKind.u64.bits x ||| BitVec.ofInt IntKind.u64.bits y).toNat < 2 ^ 64 := BitVec.isLt _
  have : IntKind.u64.wrap (((BitVec.ofInt IntKind.u64.bits x ||| BitVec.ofInt IntKind.u64.bits y).toNat : Nat) : Int) = (((BitVec.ofInt IntKind.u64.bits x ||| BitVec.ofInt IntKind.u64.bits y).toNat : Nat) : Int) := wr_u64 (by omega)
  rw [this]
  rfl
theorem natL_two (q : List UInt8) : ((natL q 2 : Nat) : Int) = ((q.getD 0 0).toNat : Int) + 256 * ((q.getD 1 0).toNat : Int) := by
  simp only [natL, Nat.reducePow]
  omega
theorem two_i64 (a b : UInt8) : IntKind.i64.wrap ((a.toNat : Int) + (shlK .i64 (b.toNat : Int) 8)) = (a.toNat : Int) + 256 * (b.toNat : Int) := by
  have ha := UInt8.toNat_lt a
  have hb := UInt8.toNat_lt b
  have e : shlK .i64 (b.toNat : Int) 8 = 256 * (b.toNat : Int) := by
    unfold shlK
    have : (b.toNat : Int) * 2 ^ (min (8 : Int).toNat IntKind.i64.bits) = 256 * (b.toNat : Int) := by
      rw [show min (8 : Int).toNat IntKind.i64.bits = 8 from rfl, show (2 : Int) ^ 8 = 256 from rfl]; omega
    rw [this]
    exact wr64 (by omega)
  rw [e]
  exact wr64 (by omega)
theorem getD_drop (q : List UInt8) (a i : Nat) : (q.drop a).getD i 0 = q.getD (a + i) 0 := by simp [List.getD_eq_getElem?_getD, List.getElem?_drop]
theorem o125_eq {p : List UInt8} (hp : p.length ≤ 1000000) : o125 p = some (decE (decP p)) := by
  unfold o125 decP
  by_cases h : ((p.length : Nat) : Int) < 12
  · rw [cndT (dt h), dt h]; rfl
  rw [cndF (df h), df h, cond_false]
  have d : (8 : Int).toNat = 8 ∧ (9 : Int).toNat = 9 ∧ (10 : Int).toNat = 10 ∧ (11 : Int).toNat = 11 ∧ (12 : Int).toNat = 12 := ⟨rfl, rfl, rfl, rfl, rfl⟩
  obtain ⟨d8, d9, d10, d11, d12⟩ := d
  rw [gdT (dt (by omega)), gdT (dt (by omega)), gdT (dt (by omega)), gdT (dt (by omega)), gdT (dt (by omega)), d8, d9, d10, d11, d12, o33_eq (by simp; omega), bdI]
  have hb : ∀ i, IntKind.i64.wrap ((p.getD i 0).toNat : Int) = ((p.getD i 0).toNat : Int) := fun i => wr64 (by have := (p.getD i 0).toNat_lt; omega)
  rw [hb, hb, hb, hb, two_i64, two_i64]
  have e : (getI p 8, ((p.getD 8 0).toNat : Int) + 256 * ((p.getD 9 0).toNat : Int), ((p.getD 10 0).toNat : Int) + 256 * ((p.getD 11 0).toNat : Int), List.drop 12 p) = rawP p := by
    unfold rawP
    rw [natL_two, natL_two, getD_drop, getD_drop, getD_drop, getD_drop]
  generalize ((p.getD 8 0).toNat : Int) + 256 * ((p.getD 9 0).toNat : Int) = I at e ⊢
  generalize ((p.getD 10 0).toNat : Int) + 256 * ((p.getD 11 0).toNat : Int) = C at e ⊢
  refine loop_from (fun k => ((p, ((k : Nat) : Int)), (IntKind.i64.wrap (getK p k), I, C), p.drop 12)) 8 rfl (fun k hk => ?_) ?_ (by omega)
  · have hbk := (p.getD k 0).toNat_lt
    unfold o125_b0
    refine (cndT (dt (by show (k : Int) < 8; omega))).trans ((gdT (dt (by show (0 : Int) ≤ k ∧ (k : Int) < (p.length : Int); omega))).trans ((gdT (dt (by show (0 : Int) ≤ IntKind.i64.wrap (8 * (k : Int)); rw [wr64 (by omega)]; omega))).trans ?_))
    dsimp only
    rw [lor_i64, show IntKind.i64.wrap ((k : Int) + 1) = (k : Int) + 1 from wr64 (by omega), show IntKind.i64.wrap (8 * (k : Int)) = 8 * (k : Int) from wr64 (by omega), show (k : Int).toNat = k from rfl, IntWalk.u64_in _ (by omega)]
    rfl
  · unfold o125_b0
    refine (cndF (df (by show ¬ ((8 : Nat) : Int) < 8; decide))).trans ?_
    dsimp only
    rw [getK_eq p 8 (by decide), show IntKind.i64.wrap ((natL p 8 : Nat) : Int) = getI p 8 from rfl, o124_eq, bdI, e]
    have e1 : getI p 8 = (rawP p).1 := rfl
    have e2 : p.drop 12 = (rawP p).2.2.2 := rfl
    have e3 : I = (rawP p).2.1 := by rw [← e]
    have e4 : C = (rawP p).2.2.1 := by rw [← e]
    rw [e1, e2, e3, e4]
    cases validP (rawP p) <;> rfl
end Go.Proofs.YtpleflcfaecojaaGreat
