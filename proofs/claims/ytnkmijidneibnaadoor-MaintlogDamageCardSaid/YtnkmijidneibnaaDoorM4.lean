/-
MaintlogDamage returns true for every input. Conditions: none.
-/
import Derived.Test.YtnkmijidneibnaaDoorM3
import Derived.Test.YtnkmijidneibnaaDoorRows
import Derived.LaidMore
import Derived.Stop.Joined
import Derived.Stop.LaidErr
import Derived.Test.YtnkmijidneibnaaDoorTie
import Derived.Test.YtnkmijidneibnaaDoorCards
import Derived.SevenTiedAt
namespace Go.Proofs.YtnkmijidneibnaaDoor
set_option linter.unusedVariables false
set_option linter.unusedSimpArgs false
set_option maxRecDepth 100000
open Go.RowKit
theorem ovr_self {d : List UInt8} {i n : Nat} (h : i + n ≤ d.length) : ovrL d i ((d.drop i).take n) = d := by
  unfold ovrL
  have e : ((d.drop i).take n).length = n := by rw [List.length_take, List.length_drop]; omega
  rw [e, List.append_assoc, ← List.drop_drop, List.take_append_drop, List.take_append_drop]
theorem V_ovr {d p : List UInt8} {i : Nat} (h : i + p.length ≤ d.length) : V (ovrL d i p) = V (d.take i) ^^^ ((V p ^^^ (V (d.drop (i + p.length)) <<< (8 * p.length))) <<< (8 * i)) := by
  unfold ovrL
  rw [List.append_assoc, V_app, V_app, List.length_take, Nat.min_eq_left (by omega)]
theorem slot_tail {d : List UInt8} {k : Nat} : (slot d k).drop 1 = (d.drop (30 * k + 1)).take 29 := by
  unfold slot
  rw [List.drop_take, List.drop_drop]
theorem shl_lt {p o n : Nat} (h : ∀ j, p.testBit j = true → o + j < n) : p <<< o < 2 ^ n := by
  refine Nat.lt_pow_two_of_testBit _ fun i hi => ?_
  rw [Nat.testBit_shiftLeft]
  by_cases hio : i ≥ o
  · rw [decide_eq_true hio, Bool.true_and]
    rcases hb : p.testBit (i - o) with _ | _
    · rfl
    · have := h _ hb
      omega
  · rw [decide_eq_false hio]
    rfl
theorem dam_slot {d d' : List UInt8} {s k o p : Nat} (hd : d.length = 30 * s) (hk : k < s) (hl : d'.length = d.length) (hv : V d' = V d ^^^ (p <<< (8 * (30 * k + 1) + o))) (hb : ∀ j, p.testBit j = true → o + j < 232) :
    (∀ i, i ≠ k → slot d' i = slot d i) ∧ (slot d' k).head? = (slot d k).head? ∧ ((slot d' k).drop 1).length = 29 ∧ V ((slot d' k).drop 1) = V ((slot d k).drop 1) ^^^ (p <<< o) := by
  have hs := slot_len hd hk
  obtain ⟨q, hq⟩ : ∃ q, (slot d k).drop 1 = q := ⟨_, rfl⟩
  have hql : q.length = 29 := by rw [← hq, List.length_drop, hs]
  have hlt : V q ^^^ (p <<< o) < 2 ^ (8 * 29) := Nat.xor_lt_two_pow (by have := V_lt q; rwa [hql] at this) (shl_lt hb)
  obtain ⟨q', h1, h2⟩ := V_surj 29 _ hlt
  have e1 : ovrL d (30 * k + 1) q = d := by
    rw [← hq, slot_tail]
    exact ovr_self (by omega)
  have e2 : d' = ovrL d (30 * k + 1) q' := by
    refine V_inj (by rw [ovr_len (by omega)]; exact hl) ?_
    have hV := V_ovr (d := d) (p := q) (i := 30 * k + 1) (by omega)
    rw [e1] at hV
    rw [hv, V_ovr (by omega), hV, hql, h1, h2]
    simp only [Nat.shiftLeft_xor_distrib, ← Nat.shiftLeft_add]
    rw [show o + 8 * (30 * k + 1) = 8 * (30 * k + 1) + o by omega]
    simp only [Nat.xor_assoc]
    congr 2
    rw [Nat.xor_comm]
  have hsl := fun i => slot_ovr (p := q') (o := 1) hd hk (by omega) i
  rw [← e2] at hsl
  have hk' := hsl k
  rw [if_pos rfl] at hk'
  have hdr : (slot d' k).drop 1 = q' := by
    rw [hk']
    unfold ovrL
    rw [List.append_assoc, List.drop_append_of_le_length (by rw [List.length_take]; omega), List.drop_take, Nat.sub_self, List.take_zero, List.nil_append, List.drop_of_length_le (by omega), List.append_nil]
  refine ⟨fun i hi => by rw [hsl i, if_neg hi], ?_, by rw [hdr, h1], by rw [hdr, h2, hq]⟩
  rw [hk']
  unfold ovrL
  cases h : slot d k with
  | nil => rw [h] at hs; cases hs
  | cons a l => simp
theorem rdS_reg {P : List UInt8} {k s : Nat} {x : Flt} (h : rdS P k s = some x) : Reg ones (P.drop 1) = cN 32 ones := by
  unfold rdS at h
  split at h
  · rename_i hh
    have e : P.drop 1 = (P.drop 1).take 25 ++ seal4 (crcI ((P.drop 1).take 25)) := by
      rw [← hh.2.1, show 26 = 1 + 25 from rfl, ← List.drop_drop, List.take_append_drop]
    rw [e, Reg_seal]
  · cases h
def Clean (d : List UInt8) (s : Nat) : Prop := ∀ i, i < s → (slot d i).head? = some 195 → ∃ x, rdS (slot d i) i s = some x
theorem MemS.dam {d d' : List UInt8} {s k o p : Nat} {F : List Flt} (h : MemS d s F) (hc : Clean d s) (hk : k < s) (hl : d'.length = d.length) (hv : V d' = V d ^^^ (p <<< (8 * (30 * k + 1) + o))) (hb : ∀ j, p.testBit j = true → o + j < 232) (hp : p < 2 ^ 32) (ho : o < 232) (h0 : p ≠ 0) :
    MemS d' s (others F s k) := by
  obtain ⟨h1, h2, h3, h4⟩ := dam_slot h.len hk hl hv hb
  have hn : rdS (slot d' k) k s = none := by
    cases hr : rdS (slot d' k) k s with
    | none => rfl
    | some x =>
      exfalso
      have hd : (slot d' k).head? = some 195 := Classical.byContradiction fun e => by rw [rdS_head e] at hr; cases hr
      rw [h2] at hd
      obtain ⟨y, hy⟩ := hc k hk hd
      have hlen : ((slot d k).drop 1).length = 29 := by rw [List.length_drop, slot_len h.len hk]
      exact h0 (burst (p := (slot d k).drop 1) (q := (slot d' k).drop 1) (by rw [h3, hlen]) hp h4 (by rw [hlen]; omega) (rdS_reg hy) (rdS_reg hr))
  refine ⟨by rw [hl]; exact h.len, h.s2, h.s64, h.srt.filter _, fun i x hi => ?_⟩
  rw [mem_others]
  by_cases c : i = k
  · subst c
    rw [hn]
    constructor
    · intro h; cases h
    · rintro ⟨⟨_, a⟩, b⟩; exact absurd b a
  · rw [h1 i c, h.mem i x hi]
    constructor
    · rintro ⟨a, b⟩; exact ⟨⟨a, by rw [b]; omega⟩, b⟩
    · rintro ⟨⟨a, _⟩, b⟩; exact ⟨a, b⟩
theorem Clean.zero {s : Nat} (h2 : 2 ≤ s) : Clean (List.replicate (30 * s) 0) s := fun i hi h => by
  exfalso
  revert h
  unfold slot
  rw [List.drop_replicate, List.take_replicate]
  obtain ⟨m, hm⟩ : ∃ m, min 30 (30 * s - 30 * i) = m + 1 := ⟨29, by omega⟩
  rw [hm, List.replicate_succ]
  simp
theorem Clean.app {d : List UInt8} {s : Nat} (hc : Clean d s) (hl : d.length = 30 * s) {c ph t n : Int} {k : Nat} (hk : k < s) (hg : goodF (c, ph, t, n) k s) (ho : okG (c, ph, t, n)) : Clean (ovrL d (30 * k) (195 :: contB c ph t n)) s := fun i hi hh => by
  have hp : (195 :: contB c ph t n).length = 30 := by rw [List.length_cons, contB_len]
  have e := slot_ovr (p := 195 :: contB c ph t n) (o := 0) hl hk (by omega) i
  rw [Nat.add_zero] at e
  rw [e] at hh ⊢
  by_cases hik : i = k
  · subst hik
    rw [if_pos rfl, ovr_all (by rw [hp, slot_len hl hi]), rdS_slot hg ho]
    exact ⟨_, rfl⟩
  · rw [if_neg hik] at hh ⊢
    exact hc i hi hh
theorem fill_clean {seed : Int} (hs : 0 ≤ seed ∧ seed ≤ 65535) {s n : Nat} (h2 : 2 ≤ s) (h64 : s ≤ 64) (hn : n ≤ 200) : ∃ d, o14 (n : Int) seed 1 false (-1) false (List.replicate (30 * s) 0) [] = some (true, (n : Int) + 1, false, -1, false, d, allF seed n, newest s (allF seed n)) ∧ MemS d s (newest s (allF seed n)) ∧ Clean d s := by
  have e0 : newest s (allF seed 0) = [] := by simp [newest, allF]
  unfold o14
  have hL := loop_inv (n := n)
    (fun i (st : Int × Int × Int × Int × Bool × Int × Bool × List UInt8 × List Flt × List Flt) => ∃ d, st = (seed, (n : Int), (i : Int), (i : Int) + 1, false, -1, false, d, allF seed i, newest s (allF seed i)) ∧ MemS d s (newest s (allF seed i)) ∧ Clean d s)
    (Q := fun r => ∃ d, r = (true, (n : Int) + 1, false, -1, false, d, allF seed n, newest s (allF seed n)) ∧ MemS d s (newest s (allF seed n)) ∧ Clean d s)
    (B := fun (v3 : Int × Int × Int × Int × Bool × Int × Bool × List UInt8 × List (Int × Int × Int × Int) × List (Int × Int × Int × Int)) => (cnd (decide (v3.2.2.1 < v3.2.1)) (bd (α := (Int × Int × Int × Bool × Int × Bool × List UInt8 × List (Int × Int × Int × Int))) (o16 (IntKind.wrap .i64 ((IntKind.wrap .i64 (Int.tmod v3.1 (100 : Int))) - v3.2.2.1)) (IntKind.wrap .u8 (IntKind.wrap .i64 ((Int.tmod (IntKind.wrap .i64 ((IntKind.wrap .i64 v3.1) + v3.2.2.1)) (8 : Int)) + (1 : Int)))) (IntKind.wrap .i64 (v3.2.2.1 * v3.2.2.1)) v3.2.2.2.1 v3.2.2.2.2.1 v3.2.2.2.2.2.1 v3.2.2.2.2.2.2.1 v3.2.2.2.2.2.2.2.1 v3.2.2.2.2.2.2.2.2.2) (fun v4 => (cnd (v4.2.1 != (0 : Int)) (dnO (some (false, v4.2.2.1, v4.2.2.2.1, v4.2.2.2.2.1, v4.2.2.2.2.2.1, v4.2.2.2.2.2.2.1, ([] : List (Int × Int × Int × Int)), v4.2.2.2.2.2.2.2))) (gd (decide ((v3.2.2.2.2.2.2.2.2.1.length + ([((IntKind.wrap .i64 ((IntKind.wrap .i64 (Int.tmod v3.1 (100 : Int))) - v3.2.2.1)), ((IntKind.wrap .u8 (IntKind.wrap .i64 ((Int.tmod (IntKind.wrap .i64 ((IntKind.wrap .i64 v3.1) + v3.2.2.1)) (8 : Int)) + (1 : Int)))), ((IntKind.wrap .i64 (v3.2.2.1 * v3.2.2.1)), v4.1)))] : List (Int × Int × Int × Int)).length) * 32 ≤ 140737488355328)) (some (Ctl.go (v3.1, v3.2.1, (IntKind.wrap .i64 (v3.2.2.1 + (1 : Int))), v4.2.2.1, v4.2.2.2.1, v4.2.2.2.2.1, v4.2.2.2.2.2.1, v4.2.2.2.2.2.2.1, (v3.2.2.2.2.2.2.2.2.1 ++ ([((IntKind.wrap .i64 ((IntKind.wrap .i64 (Int.tmod v3.1 (100 : Int))) - v3.2.2.1)), ((IntKind.wrap .u8 (IntKind.wrap .i64 ((Int.tmod (IntKind.wrap .i64 ((IntKind.wrap .i64 v3.1) + v3.2.2.1)) (8 : Int)) + (1 : Int)))), ((IntKind.wrap .i64 (v3.2.2.1 * v3.2.2.1)), v4.1)))] : List (Int × Int × Int × Int))), v4.2.2.2.2.2.2.2))))))) (dnO (some (true, v3.2.2.2.1, v3.2.2.2.2.1, v3.2.2.2.2.2.1, v3.2.2.2.2.2.2.1, v3.2.2.2.2.2.2.2.1, v3.2.2.2.2.2.2.2.2.1, v3.2.2.2.2.2.2.2.2.2)))))
    (s0 := (seed, (n : Int), 0, 1, false, -1, false, List.replicate (30 * s) 0, [], [])) ?_ ?_ (by omega) ⟨List.replicate (30 * s) 0, by rw [e0]; rfl, by rw [e0]; exact MemS.zero h2 h64, Clean.zero h2⟩
  · obtain ⟨r, h1, d, h3, h4⟩ := hL
    exact ⟨d, by rw [← h3]; exact h1, h4⟩
  · rintro i _ hi ⟨d, rfl, hst, hcl⟩
    obtain ⟨k, hk, hkk⟩ := idx h2 ((i : Int) + 1)
    have hc := hst.cnt
    have hg : goodF (ftF seed i) k s := ⟨(ftF_ph hs (by omega)).1, (ftF_ph hs (by omega)).2, (by show (1 : Int) ≤ (i : Int) + 1; omega), (by show (i : Int) + 1 ≤ 4611686018427387904; omega), hkk⟩
    have hlt : ∀ x ∈ newest s (allF seed i), x.2.2.2 < (ftF seed i).2.2.2 := fun x hx => by
      obtain ⟨j, hj, rfl⟩ := newest_mem hx
      show (j : Int) + 1 < (i : Int) + 1
      omega
    have hA := o16_eq (c := (ftF seed i).1) (ph := (ftF seed i).2.1) (t := (ftF seed i).2.2.1) (n := (i : Int) + 1) (a := -1) (br := false) (off := false) (d := d) (F := newest s (allF seed i)) (ftF_ph hs (by omega)) (by omega) hst.len h2 h64 (nonneg hst) (by omega) (by omega) hk hkk
    have hB : appF (ftF seed i).1 (ftF seed i).2.1 (ftF seed i).2.2.1 ((i : Int) + 1) false (-1) false d (newest s (allF seed i)) s k = ((i : Int) + 1, 0, (i : Int) + 1 + 1, false, -1, false, ovrL d (30 * k) (195 :: contB (ftF seed i).1 (ftF seed i).2.1 (ftF seed i).2.2.1 ((i : Int) + 1)), newest s (allF seed (i + 1))) := by
      unfold appF
      rw [if_neg (by simp), if_pos (by omega), if_pos (by omega), ← newest_step h2 hkk]
      rfl
    rw [hB] at hA
    have hN : MemS (ovrL d (30 * k) (195 :: contB (ftF seed i).1 (ftF seed i).2.1 (ftF seed i).2.2.1 ((i : Int) + 1))) s (others (newest s (allF seed i)) s k ++ [ftF seed i]) := hst.app hk hg (ftF_ok seed i) hlt
    rw [newest_step h2 hkk] at hN
    have hal : (allF seed i).length = i := allF_len _ _
    refine ⟨_, ?_, _, rfl, hN, hcl.app hst.len hk hg (ftF_ok seed i)⟩
    dsimp only
    rw [cndT (dt (by omega))]
    refine (bdS (t := _) hA).trans ?_
    dsimp only
    rw [cndF (neq_f rfl), gdT (dt (by simp only [List.length_cons, List.length_nil]; omega)), wr64 (x := (i : Int) + 1) (by omega), allF_succ]
    rfl
  · rintro _ ⟨d, rfl, hst, hcl⟩
    refine ⟨_, ?_, d, rfl, hst, hcl⟩
    dsimp only
    rw [cndF (df (by omega))]
    rfl
end Go.Proofs.YtnkmijidneibnaaDoor
namespace Go.Proofs.YtnkmijidneibnaaDoor
set_option linter.unusedVariables false
set_option linter.unusedSimpArgs false
set_option maxRecDepth 100000
open Go.RowKit
theorem land1023 (x : Int) : ∃ c : Nat, c ≤ 1023 ∧ landK .i64 x 1023 = (c : Int) := by
  unfold landK
  have e1 : (BitVec.ofInt IntKind.i64.bits (1023 : Int)).toNat = 1023 := by decide
  rw [BitVec.toNat_and, e1]
  have h : (BitVec.ofInt IntKind.i64.bits x).toNat &&& 1023 ≤ 1023 := Nat.and_le_right
  exact ⟨_, h, wr64 (by omega)⟩
theorem landn_u32 {a b : Nat} (ha : a < 2 ^ 32) (hb : b < 2 ^ 32) : landK .u32 (a : Int) (b : Int) = ((a &&& b : Nat) : Int) := by
  unfold landK
  have e : ∀ x : Nat, x < 2 ^ 32 → (BitVec.ofInt IntKind.u32.bits (x : Int)).toNat = x := fun x hx => by
    rw [BitVec.toNat_ofInt]
    show ((x : Int) % ((2 ^ 32 : Nat) : Int)).toNat = x
    omega
  rw [BitVec.toNat_and, e a ha, e b hb]
  have : a &&& b < 2 ^ 32 := Nat.and_lt_two_pow _ hb
  exact wr_u32 (by omega)
theorem mask_u32 {m : Nat} (hm : m < 32) : IntKind.u32.wrap (shlK .u32 1 (m : Int) - 1) = ((2 ^ m - 1 : Nat) : Int) := by
  have hlt : (2 : Nat) ^ m < 2 ^ 32 := Nat.pow_lt_pow_right (by decide) hm
  have hpos : 0 < (2 : Nat) ^ m := Nat.two_pow_pos m
  have e : shlK .u32 1 (m : Int) = ((2 ^ m : Nat) : Int) := by
    unfold shlK
    have : min ((m : Nat) : Int).toNat IntKind.u32.bits = m := by
      show min ((m : Nat) : Int).toNat 32 = m
      omega
    rw [this]
    have e : (1 : Int) * 2 ^ m = ((2 ^ m : Nat) : Int) := by simp
    rw [e]
    exact wr_u32 (by omega)
  rw [e, wr_u32 (by omega)]
  omega
def keepF (p k : Nat) (x : Flt) : Bool := decide (p = 0) || decide (x.2.2.2 % 4 ≠ (k : Int))
theorem flip_ok {bit p : Nat} {d : List UInt8} (hp : p < 2 ^ 32) (hl : d.length ≤ 100000) (hb : bit ≤ 1000000) (h : ∀ j, j < 32 → p.testBit j = true → bit + j < 8 * d.length) :
    ∃ d', o24 (bit : Int) (p : Int) (-1) false d = some (0, -1, false, d') ∧ d'.length = d.length ∧ V d' = V d ^^^ (p <<< bit) := by
  obtain ⟨d', h1, h2, h3⟩ := flF_xor hp h
  refine ⟨d', ?_, h2, h3⟩
  unfold o24
  rw [bdS (o48_eq hp hl ⟨by omega, by omega⟩), fl_eq hp, h1]
  dsimp only
  have : List.take (d.length - 0) d' = d' := List.take_of_length_le (by omega)
  rw [cndT (eq_t rfl), this, ovr_all h2]
theorem damage_plain (a0 a1 a2 a3 a4 a5 a6 a7 : Int) (h0 : u16R a0) (h1 : u16R a1) (h7 : 0 ≤ a7 ∧ a7 < 4294967296) : o7 a0 a1 a2 a3 a4 a5 a6 a7 = some true := by
  obtain ⟨n, hn, hn'⟩ := small0 h0 12 (by decide) (by decide)
  obtain ⟨k, hk, hk'⟩ := small0 h1 4 (by decide) (by decide)
  have hn' : Int.tmod (IntKind.i64.wrap a0) 12 = (n : Int) := hn'
  have hk' : Int.tmod (IntKind.i64.wrap a1) 4 = (k : Int) := hk'
  obtain ⟨d, hf, hst, hcl⟩ := fill_clean h1 (s := 4) (n := n) (by decide) (by decide) (by omega)
  obtain ⟨c, hc, hc'⟩ := land1023 a6
  obtain ⟨a7, rfl⟩ : ∃ x : Nat, a7 = (x : Int) := ⟨a7.toNat, by omega⟩
  have hlen := allF_len a1 n
  have e12 : o12 4 = some (Sum.inr (false, List.replicate (30 * 4) 0)) := o12_ok (s := 4) (by decide) (by decide)
  have h00 : MemS (List.replicate (30 * 4) 0) 4 [] := MemS.zero (by decide) (by decide)
  have hcnt := hst.cnt
  have hnn := nonneg hst
  have eW : List.drop ((allF a1 n).length - 4) (allF a1 n) = newest 4 (allF a1 n) := rfl
  have hmx : maxI 0 (IntKind.i64.wrap ((((allF a1 n).length : Nat) : Int) - 4)) = (((allF a1 n).length - 4 : Nat) : Int) := mx (s := 4) (by omega) (by decide)
  generalize newest 4 (allF a1 n) = W at *
  have hl := hst.len
  obtain ⟨o, ho, ho'⟩ : ∃ o : Nat, o < 232 ∧ Int.tmod (c : Int) 232 = (o : Int) := ⟨c % 232, by omega, by rw [Int.tmod_eq_emod_of_nonneg (by omega)]; omega⟩
  have w1 : IntKind.i64.wrap ((k : Int) * 30) = ((30 * k : Nat) : Int) := by rw [wr64 (by omega)]; omega
  have w2 : IntKind.i64.wrap (((30 * k : Nat) : Int) + 1) = ((30 * k + 1 : Nat) : Int) := by rw [wr64 (by omega)]; omega
  have w3 : IntKind.i64.wrap (8 * ((30 * k + 1 : Nat) : Int)) = ((8 * (30 * k + 1) : Nat) : Int) := by rw [wr64 (by omega)]; omega
  have w4 : IntKind.i64.wrap ((k : Int) + 1) = ((k + 1 : Nat) : Int) := by rw [wr64 (by omega)]; omega
  have w5 : IntKind.i64.wrap (8 * ((k + 1 : Nat) : Int)) = ((8 * (k + 1) : Nat) : Int) := by rw [wr64 (by omega)]; omega
  have w6 : IntKind.i64.wrap (((8 * (k + 1) : Nat) : Int) * 30) = ((240 * (k + 1) : Nat) : Int) := by rw [wr64 (by omega)]; omega
  have w7 : IntKind.i64.wrap (((240 * (k + 1) : Nat) : Int) - ((8 * (30 * k + 1) : Nat) : Int)) = 232 := by rw [wr64 (by omega)]; omega
  have w8' : IntKind.i64.wrap (((8 * (30 * k + 1) : Nat) : Int) + (o : Int)) = ((8 * (30 * k + 1) + o : Nat) : Int) := by rw [wr64 (by omega)]; omega
  have w9 : IntKind.i64.wrap (((240 * (k + 1) : Nat) : Int) - ((8 * (30 * k + 1) + o : Nat) : Int)) = ((232 - o : Nat) : Int) := by rw [wr64 (by omega)]; omega
  have hp : ∃ p : Nat, p < 2 ^ 32 ∧ (∀ j, p.testBit j = true → o + j < 232) ∧ ((232 - o < 32 ∧ landK .u32 ((a7 : Nat) : Int) (IntKind.u32.wrap (shlK .u32 1 ((232 - o : Nat) : Int) - 1)) = (p : Int)) ∨ (¬ 232 - o < 32 ∧ a7 = p)) := by
    by_cases hm : 232 - o < 32
    · have hlt : (2 : Nat) ^ (232 - o) < 2 ^ 32 := Nat.pow_lt_pow_right (by decide) hm
      have hpl : a7 &&& (2 ^ (232 - o) - 1) < 2 ^ (232 - o) := Nat.and_lt_two_pow _ (by have := Nat.two_pow_pos (232 - o); omega)
      refine ⟨a7 &&& (2 ^ (232 - o) - 1), by omega, fun j hj => ?_, .inl ⟨hm, ?_⟩⟩
      · rcases Nat.lt_or_ge (o + j) 232 with h | h
        · exact h
        · rw [Nat.testBit_lt_two_pow (Nat.lt_of_lt_of_le hpl (Nat.pow_le_pow_right (by decide) (by omega)))] at hj
          cases hj
      · rw [mask_u32 hm, landn_u32 (by omega) (by omega)]
    · refine ⟨a7, by omega, fun j hj => ?_, .inr ⟨hm, rfl⟩⟩
      rcases Nat.lt_or_ge j 32 with h | h
      · omega
      · have : a7 < 2 ^ j := Nat.lt_of_lt_of_le (show a7 < 2 ^ 32 by omega) (Nat.pow_le_pow_right (by decide) h)
        rw [Nat.testBit_lt_two_pow this] at hj
        cases hj
  obtain ⟨p, hp32, hpb, hpc⟩ := hp
  obtain ⟨d', hfl, hdl, hV⟩ := flip_ok (bit := 8 * (30 * k + 1) + o) hp32 (d := d) (by omega) (by omega) (fun j _ hj => by have := hpb j hj; omega)
  obtain ⟨F', hM, hF'⟩ : ∃ F', MemS d' 4 F' ∧ F' = W.filter (keepF p k) := by
    by_cases h : p = 0
    · subst h
      have : d' = d := V_inj hdl (by rw [hV]; simp)
      subst this
      refine ⟨W, hst, ?_⟩
      symm
      rw [List.filter_eq_self]
      intro x _
      simp [keepF]
    · refine ⟨_, hst.dam hcl hk hdl hV hpb hp32 ho h, ?_⟩
      unfold others
      congr 1
      funext x
      simp [keepF, h]
  have hFc := hM.cnt
  have hO := open_eq (a := -1) hM
  generalize nxF (rdL d' 4 4) = N at *
  unfold o7
  rw [bdS awake_yes, cndF (c := !true) rfl, bdS e12]
  simp only [smR, bdI]
  rw [bdS (open_eq h00), nx_nil h00]
  simp only [smR, bdI]
  rw [hn', bdS hf]
  simp only [Bool.not_true, cnd_f]
  rw [hk', hc', w1, w2, w3, w4, w5, w6, w7, ho', w8', w9, hmx, gdT (dt (by omega)), gdT (dt (by decide)), Int.toNat_natCast, cutN, eW]
  rcases hpc with ⟨hm, hl7⟩ | ⟨hm, hl7⟩
  · rw [cndT (dt (by omega)), gdT (dt (by omega)), hl7, bdI]
    dsimp only
    rw [bdS hfl]
    dsimp only
    rw [cndF (neq_f rfl), bdS hO]
    simp only [smR, bdI]
    refine loop_cnt (n := W.length) (fun i => ((k : Int), (p : Int), W, (W.length : Int), (i : Int), N, false, (W.take i).filter (keepF p k), -1, false, F', d')) (fun i hi => ?_) ?_ (by omega)
    · dsimp only
      have hx := hnn _ (List.getElem_mem hi)
      have hwi : IntKind.i64.wrap ((i : Int) + 1) = ((i + 1 : Nat) : Int) := by rw [wr64 (by omega)]; omega
      have hfl2 := List.length_filter_le (keepF p k) (W.take i)
      rw [List.length_take] at hfl2
      rw [cndT (dt (by omega)), gdT (dt (by omega)), Int.toNat_natCast, getD_of hi, List.take_succ_eq_append_getElem hi, List.filter_append, Int.tmod_eq_emod_of_nonneg hx, wr64 (by omega)]
      by_cases hp0 : p = 0
      · rw [cndT (eq_t (by omega)), bdI]
        dsimp only
        rw [cnd_t, gdT (dt (by simp only [List.length_cons, List.length_nil]; omega)), List.filter_cons_of_pos (by simp [keepF, hp0]), List.filter_nil, hwi]
        try rfl
      · rw [cndF (eq_f (by omega)), bdI]
        dsimp only
        by_cases hx4 : W[i].2.2.2 % 4 = (k : Int)
        · rw [cndF (neq_f hx4), List.filter_cons_of_neg (by simp [keepF, hp0, hx4]), List.filter_nil, List.append_nil, hwi]
          try rfl
        · rw [cndT (neq_t hx4), gdT (dt (by simp only [List.length_cons, List.length_nil]; omega)), List.filter_cons_of_pos (by simp [keepF, hx4]), List.filter_nil, hwi]
          try rfl
    · dsimp only
      rw [cndF (df (by omega)), bdS (o19_eq (by omega)), List.take_length, ← hF', bdS (same_refl (by omega))]
      rfl
  · rw [cndF (df (by omega)), hl7, bdI]
    dsimp only
    rw [bdS hfl]
    dsimp only
    rw [cndF (neq_f rfl), bdS hO]
    simp only [smR, bdI]
    refine loop_cnt (n := W.length) (fun i => ((k : Int), (p : Int), W, (W.length : Int), (i : Int), N, false, (W.take i).filter (keepF p k), -1, false, F', d')) (fun i hi => ?_) ?_ (by omega)
    · dsimp only
      have hx := hnn _ (List.getElem_mem hi)
      have hwi : IntKind.i64.wrap ((i : Int) + 1) = ((i + 1 : Nat) : Int) := by rw [wr64 (by omega)]; omega
      have hfl2 := List.length_filter_le (keepF p k) (W.take i)
      rw [List.length_take] at hfl2
      rw [cndT (dt (by omega)), gdT (dt (by omega)), Int.toNat_natCast, getD_of hi, List.take_succ_eq_append_getElem hi, List.filter_append, Int.tmod_eq_emod_of_nonneg hx, wr64 (by omega)]
      by_cases hp0 : p = 0
      · rw [cndT (eq_t (by omega)), bdI]
        dsimp only
        rw [cnd_t, gdT (dt (by simp only [List.length_cons, List.length_nil]; omega)), List.filter_cons_of_pos (by simp [keepF, hp0]), List.filter_nil, hwi]
        try rfl
      · rw [cndF (eq_f (by omega)), bdI]
        dsimp only
        by_cases hx4 : W[i].2.2.2 % 4 = (k : Int)
        · rw [cndF (neq_f hx4), List.filter_cons_of_neg (by simp [keepF, hp0, hx4]), List.filter_nil, List.append_nil, hwi]
          try rfl
        · rw [cndT (neq_t hx4), gdT (dt (by simp only [List.length_cons, List.length_nil]; omega)), List.filter_cons_of_pos (by simp [keepF, hx4]), List.filter_nil, hwi]
          try rfl
    · dsimp only
      rw [cndF (df (by omega)), bdS (o19_eq (by omega)), List.take_length, ← hF', bdS (same_refl (by omega))]
      rfl
theorem repAct {p : Psi} {cs : List Value} {x : Int × Int × Int × Int × Int × Int} (h : (Cd.ty (.p (.i .u8) (.p (.i .i64) (.p (.i .u8) (.p (.i .i64) (.p (.i .i64) (.i .u32))))))).rep p cs x) : inK .u8 x.1 ∧ inK .i64 x.2.1 ∧ inK .u8 x.2.2.1 ∧ inK .i64 x.2.2.2.1 ∧ inK .i64 x.2.2.2.2.1 ∧ inK .u32 x.2.2.2.2.2 := by
  obtain ⟨c1, c2, rfl, ⟨rfl, h1⟩, d1, d2, rfl, ⟨rfl, h2⟩, e1, e2, rfl, ⟨rfl, h3⟩, f1, f2, rfl, ⟨rfl, h4⟩, g1, g2, rfl, ⟨rfl, h5⟩, ⟨rfl, h6⟩⟩ := h
  exact ⟨h1, h2, h3, h4, h5, h6⟩
theorem damage_law {p : Psi} {cs : List Value} {x : Int × Int × Int × Int × Int × Int} {n slot : Int} (h : (Cd.ty (.p (.i .u8) (.p (.i .i64) (.p (.i .u8) (.p (.i .i64) (.p (.i .i64) (.i .u32))))))).rep p cs x) (hn : inK .u16 n) (hs : inK .u16 slot) :
    o7 n slot x.1 x.2.1 x.2.2.1 x.2.2.2.1 x.2.2.2.2.1 x.2.2.2.2.2 = some true := by
  obtain ⟨h1, h2, h3, h4, h5, h6⟩ := repAct h
  have h6 : 0 ≤ x.2.2.2.2.2 ∧ x.2.2.2.2.2 ≤ 4294967295 := ⟨h6.1, h6.2⟩
  exact damage_plain _ _ _ _ _ _ _ _ ⟨hn.1, hn.2⟩ ⟨hs.1, hs.2⟩ ⟨h6.1, by omega⟩
end Go.Proofs.YtnkmijidneibnaaDoor
namespace Go.Proofs.YtnkmijidneibnaaDoor
set_option linter.unusedVariables false
set_option linter.unusedSimpArgs false
open Go.RowKit
theorem slots_of {g : Gh} {ρ : Env} {bl : List BV} : ∀ {l : List SV} {vs : List Value} (i : Nat), All2 (RealS g ρ bl) l vs → ∀ t sv, getH (argH i l) t = some sv → ∃ v, getS (argS i vs) t = some v ∧ RealS g ρ bl sv v
  | [], [], i, _, t, sv, e => by cases e
  | s :: l, v :: vs, i, h, t, sv, e => by
    have e : cond (Nat.beq i t) (some s) (getH (argH (i + 1) l) t) = some sv := e
    show ∃ u, cond (Nat.beq i t) (some v) (getS (argS (i + 1) vs) t) = some u ∧ _
    cases hb : Nat.beq i t with
    | true => rw [hb] at e; injection e with e; subst e; exact ⟨v, rfl, h.1⟩
    | false => rw [hb] at e; exact slots_of (i + 1) h.2 t sv e
  | [], _ :: _, _, h, _, _, _ => h.elim
  | _ :: _, [], _, h, _, _, _ => h.elim
def r0 : List Sch := [⟨[(0, .v (.c .b))], []⟩]
theorem law_of_fok {P : Program} {f : FuncId} {ps : Sch} {run : HL ps.lv → Option Bool} (h : FOk P f ⟨ps, r0, run⟩) {t : HL ps.lv} (hr : run t = some true) (l : List SV) (hc : conT ps t = some ⟨argH 0 l, []⟩) {W : World} (hW : GI (psiOf W)) {vs : List Value}
    (hv : All2 (RealS (gh0 W) (fun _ => (none, 0)) []) l vs) (hl : vs.length = ps.sl.length) : Calls P f vs.toArray W fun e w' => e = .returned (.bool true) ∧ Below W.heap.size W w' := by
  have hR : Rl (gh0 W) (fun _ => (none, 0)) ⟨argH 0 l, []⟩ [] (argS 0 vs) := ⟨rfl, fun i bv k e => (by cases e), fun t sv e => slots_of 0 hv t sv e, hW⟩
  refine law_of_ctr (P := P) (f := f) (args := vs) ((h t true _ hr hc (gh0 W) _ [] vs hR hl).mono fun v ψ o hle ⟨str, ρ', h1, h2, h3, h4⟩ => ?_)
  have e : altC r0 true = some ⟨[(0, vC (.bool true))], []⟩ := rfl
  have h1 : altC r0 true = some str := h1
  rw [e] at h1
  injection h1 with h1; subst h1
  obtain ⟨u, h5, h6⟩ := h3.slot 0 _ rfl
  injection h5 with h5
  have h6 : u = .bool true := h6
  have hlen : o.length = 0 := h3.len
  exact ⟨List.length_eq_zero_iff.1 hlen, by rw [h5, h6]⟩
section
variable {P : Program} {t : TypeId}
theorem opIR {k : IntKind} (ht : P.underlying t = some (.int k)) : Opens P t (tyIR k) (fun _ => True) := fun h hw => by
  obtain ⟨x, h1, h2⟩ := opens_int ht h hw
  exact ⟨x, ⟨h1, h2⟩, trivial⟩
end
end Go.Proofs.YtnkmijidneibnaaDoor
namespace Go.Proofs.YtnkmijidneibnaaDoor
set_option linter.unusedVariables false
set_option linter.unusedSimpArgs false
open Go.RowKit Go.WideShapes Go.ChangeShapes Go.ChangeAt
def laidU : List (String × DataW Unit) := Rows.maintlogNilRow.laid
theorem door_met (os : Os) (args : Array Value) : laidMetH Tryd.prog laidU ((World.doorLaid Tryd.prog 400 os).forCall (fun _ _ => 0) ⟨#[], args, []⟩).memory :=
  laidMetH_of_parts3 (fuel := 8) (laidMet_of_run' 8 (by kernel_rfl) (by kernel_rfl)) (by kernel_rfl) (by kernel_rfl)
theorem gw_of_laid {W : World} (h : laidMetH Tryd.prog laidU W) : GW W := by
  rw [MakeChecks.laidMetH_plain _ _ _ (by kernel_rfl)] at h
  have e : laidU = [("math/bits.deBruijn32tab", Rows.laid_math_bits_deBruijn32tab), ("math/bits.deBruijn64tab", Rows.laid_math_bits_deBruijn64tab), ("internal/strconv.uint64pow10", Lib.tabData .u64 Lib.pow10Tab)] := by kernel_rfl
  rw [e] at h
  exact Lib.tabIs_of_head (g := 0) (t := 153) (e := 38) (n := 20) (by kernel_rfl) (by kernel_rfl) Tryd.underlying153 Tryd.underlying38 (by kernel_rfl) (by kernel_rfl) h.tail.tail
theorem gw_mono {W w : World} (h : GW W) (k : (psiOf W).In w) : GW w := by
  unfold GW Lib.TabIs World.var? at h ⊢
  rw [Option.bind_eq_some_iff] at h ⊢
  obtain ⟨g, h1, h2⟩ := h
  refine ⟨g, h1, ?_⟩
  cases e : W.heap[g]? with
  | none => rw [e] at h2; cases h2
  | some o => rw [k.m g o e]; rw [e] at h2; exact h2
theorem gi_of {W : World} (h : laidMetH Tryd.prog laidU W) : GI (psiOf W) := fun w k => gw_mono (gw_of_laid h) k
end Go.Proofs.YtnkmijidneibnaaDoor
namespace Go.Proofs.YtnkmijidneibnaaDoor
set_option linter.unusedVariables false
set_option linter.unusedSimpArgs false
set_option maxRecDepth 100000
open Go.RowKit Go.WideShapes Go.ChangeShapes Go.ChangeAt
theorem opH24 : Opens Tryd.prog 24 (Cd.ty (.p (.i .u8) (.p (.i .i64) (.p (.i .u8) (.p (.i .i64) (.p (.i .i64) (.i .u32))))))) (fun _ => True) := by
  intro H enc w base spare held fuel cs d pl h hw
  obtain ⟨hlen, hf⟩ := struct_fields Tryd.underlying24 h hw
  rw [show Tryd.prog.cellsOf 24 = 6 by kernel_rfl] at hlen
  match cs, hlen with
  | [c0, c1, c2, c3, c4, c5], _ =>
    obtain ⟨n0, d0, p0, h0, w0⟩ := hf 0 _ rfl
    simp [show Tryd.prog.cellsOf 5 = 1 by kernel_rfl] at h0
    obtain ⟨x0, r0, _⟩ := (opIR Tryd.underlying5) h0 w0
    obtain ⟨n1, d1, p1, h1, w1⟩ := hf 1 _ rfl
    simp [show Tryd.prog.cellsOf 2 = 1 by kernel_rfl] at h1
    obtain ⟨x1, r1, _⟩ := (opIR Tryd.underlying2) h1 w1
    obtain ⟨n2, d2, p2, h2, w2⟩ := hf 2 _ rfl
    simp [show Tryd.prog.cellsOf 5 = 1 by kernel_rfl] at h2
    obtain ⟨x2, r2, _⟩ := (opIR Tryd.underlying5) h2 w2
    obtain ⟨n3, d3, p3, h3, w3⟩ := hf 3 _ rfl
    simp [show Tryd.prog.cellsOf 2 = 1 by kernel_rfl] at h3
    obtain ⟨x3, r3, _⟩ := (opIR Tryd.underlying2) h3 w3
    obtain ⟨n4, d4, p4, h4, w4⟩ := hf 4 _ rfl
    simp [show Tryd.prog.cellsOf 3 = 1 by kernel_rfl] at h4
    obtain ⟨x4, r4, _⟩ := (opIR Tryd.underlying3) h4 w4
    obtain ⟨n5, d5, p5, h5, w5⟩ := hf 5 _ rfl
    simp [show Tryd.prog.cellsOf 22 = 1 by kernel_rfl] at h5
    obtain ⟨x5, r5, _⟩ := (opIR Tryd.underlying22) h5 w5
    exact ⟨(x0, x1, x2, x3, x4, x5), ⟨[c0], [c1] ++ [c2] ++ [c3] ++ [c4] ++ [c5], rfl, r0, ⟨[c1], [c2] ++ [c3] ++ [c4] ++ [c5], rfl, r1, ⟨[c2], [c3] ++ [c4] ++ [c5], rfl, r2, ⟨[c3], [c4] ++ [c5], rfl, r3, ⟨[c4], [c5], rfl, r4, r5⟩⟩⟩⟩⟩, trivial⟩
theorem maintlogDamage_lifted (os : Os) (started : os.Started) (H : Type) (enc : TypeId × Value → H) :
    ReturnsInHanded {} Tryd.checked os 7 .any (fun w args => (Rows.maintlogDamageSpec.pre enc Tryd.prog Tryd.f7 [] false w args ∧ laidMetH Tryd.prog laidU w) ∧ sizedMet enc Tryd.prog Tryd.f7 (OpenSpec.ofChange Rows.maintlogDamageSpec) false w args) (Rows.maintlogDamageSpec.post enc Tryd.prog Tryd.f7 false true false false) := by
  refine returnsInHanded_of_change_and (C := Tryd.checked) (X := fun w _ => laidMetH Tryd.prog laidU w) (fun _ _ _ hh h => h.of_heap hh) Tryd.own started (by kernel_rfl) Tryd.func7
    (ChangeSpec.witness_shaped (enc := enc) (C := Tryd.checked) (os := os) (X := fun w _ => laidMetH Tryd.prog laidU w) false (World.doorLaid Tryd.prog 400 os) #[.int .u16 0, .int .u16 0, .agg #[.int .u8 0, .int .i64 0, .int .u8 0, .int .i64 0, .int .i64 0, .int .u32 0]] 8 rfl (World.shaped_of_RefB (by kernel_rfl) (by kernel_rfl)) (by kernel_rfl) (by kernel_rfl) (by kernel_rfl) (door_met os _)) ?_
  intro W base args ds gs before hval0 hW hcnd hsz0 hL _
  have hval : ∀ (j : Nat) t v, Tryd.f7.params[j]? = some t → args[j]? = some v → Value.okWide Tryd.prog W .any base t v := hval0
  have hW' := hW
  obtain ⟨p, q, hA0, hV, rfl, hfz, hnd⟩ := hW
  have hA : DataW.TrodAll enc Tryd.prog W 0 (fun _ => true) true Tryd.f7.params.toList args.toList ds p := hA0
  have hA1 := hA
  rw [Tryd.params7] at hA hval
  obtain ⟨v0, vs0, d0, ds0, p0, q0, hargs, rfl, rfl, h0, r0⟩ := trodAll_cons hA
  obtain ⟨v1, vs1, d1, ds1, p1, q1, rfl, rfl, rfl, h1, r1⟩ := trodAll_cons r0
  obtain ⟨v2, vs2, d2, ds2, p2, q2, rfl, rfl, rfl, h2, r2⟩ := trodAll_cons r1
  obtain ⟨rfl, rfl, rfl⟩ := trodAll_nil r2
  obtain rfl : args = #[v0, v1, v2] := by cases args; simp_all
  obtain ⟨rfl, rfl⟩ := trodVars_none hV
  have hsz : ∀ m ∈ DataW.weightsEach Tryd.prog [25, 25, 24] [d0, d1, d2], m ≤ reachBytes := fun m hm => by
    have h9 : (DataW.weightsEach Tryd.prog (Tryd.f7.params.toList ++ []) ([d0, d1, d2] ++ [])).all (· ≤ reachBytes) = true := hsz0
    rw [Tryd.params7, List.append_nil, List.append_nil] at h9
    have := List.all_eq_true.1 h9 m hm
    simpa using this
  obtain ⟨x0, rfl, rfl, rfl, w0⟩ := open_int Tryd.underlying25 (hval 0 25 v0 rfl rfl) h0
  have k0 := lit_wf w0
  obtain ⟨x1, rfl, rfl, rfl, w1⟩ := open_int Tryd.underlying25 (hval 1 25 v1 rfl rfl) h1
  have k1 := lit_wf w1
  obtain ⟨u2, rfl, _⟩ := okWide_struct Tryd.underlying24 (hval 2 24 v2 rfl rfl)
  obtain ⟨f2, g2⟩ := h2
  obtain ⟨x2, z2, k2⟩ := opH24 g2 (fun m hm => hsz m (DataW.weights_mem_each (j := 2) rfl rfl m hm))
  simp only [List.append_nil] at hW' hA1
  have hrun := law_of_fok fo7 (t := (x0, x1, x2.1, x2.2.1, x2.2.2.1, x2.2.2.2.1, x2.2.2.2.2.1, x2.2.2.2.2.2)) ((damage_law z2 k0 k1)) [vC (.int .u16 x0), vC (.int .u16 x1), .v (.agg (Cd.cv (.p (.i .u8) (.p (.i .i64) (.p (.i .u8) (.p (.i .i64) (.p (.i .i64) (.i .u32)))))) x2))] rfl (W := W) (gi_of hL) (vs := [_, _, .agg u2]) (⟨⟨rfl, k0⟩, ⟨rfl, k1⟩, ⟨u2.toList, by simp, Cd.cv_real (.p (.i .u8) (.p (.i .i64) (.p (.i .u8) (.p (.i .i64) (.p (.i .i64) (.i .u32)))))) z2⟩, trivial⟩) rfl
  refine hrun.mono fun e W' ⟨he, hg⟩ => ?_
  subst he
  exact ⟨_, rfl, law_post Tryd.laidOut (by intro t ht; simp only [Tryd.params7] at ht; revert t; decide +kernel) rfl rfl Tryd.underlying4 rfl hW' hA1 hg⟩
theorem maintlogDamage_holds : Rows.MaintlogDamageSaid :=
  OpenClaim.holds_of_wide 7 Tryd.f7 rfl rfl rfl rfl rfl rfl rfl ⟨rfl, rfl, rfl, rfl, rfl⟩ rfl rfl rfl rfl rfl (by kernel_rfl) Tryd.func7 (by kernel_rfl)
    (of_decide_eq_true (by kernel_rfl)) (by unfold Func.isWrapper; first | (rw [if_pos (by decide +kernel)]; kernel_rfl) | (rw [if_neg (by decide +kernel)]; exact ⟨rfl, rfl⟩))
    (fun os started H enc _ => maintlogDamage_lifted os started H enc)
theorem maintlogDamage_card : Rows.MaintlogDamageCardSaid :=
  Claim7.holds_tied_plain_at .later [] [.data, .data, .data] true (true, "832b923533147a2e716e87db4360d74f12a86c126f950c923bbe595a342cd697") false
    maintlogDamage_holds (fun _ h => by cases h) (by kernel_rfl) (fun _ h => by cases h) maintlogDamage_row_tie rfl ⟨rfl, rfl⟩ (by kernel_rfl) rfl
    (fun f fn hf hfn => by
      obtain rfl : f = 7 := Option.some.inj ((show Tryd.prog.funcNamed Tryd.f7.name = some 7 by kernel_rfl).symm.trans hf) |>.symm
      obtain rfl : fn = Tryd.f7 := (Option.some.inj (Tryd.func7.symm.trans hfn)).symm
      exact ⟨by kernel_rfl, fun j t ht => by
        rw [Tryd.params7] at ht
        have hm : t ∈ [25, 25, 24] := by simpa using Array.mem_of_getElem? ht
        have hall : ([25, 25, 24].all fun u => !Tryd.prog.wantsStandIn u) = true := by kernel_rfl
        exact (show Tryd.prog.wantsStandIn t = false by simpa using List.all_eq_true.1 hall t hm)⟩)
    (by kernel_rfl)
end Go.Proofs.YtnkmijidneibnaaDoor
