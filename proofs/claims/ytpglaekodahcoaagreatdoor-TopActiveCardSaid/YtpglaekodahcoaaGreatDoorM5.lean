/-
Numbers as bytes, the lowest first, in the words of the printed functions. Conditions: each lemma's own.
-/
import Derived.Test.YtpglaekodahcoaaGreatDoorM4b
import Derived.LaidMore
import Derived.Stop.Joined
import Derived.Stop.LaidErr
namespace Go.Proofs.YtpglaekodahcoaaGreatDoor
set_option linter.unusedVariables false
set_option linter.unusedSimpArgs false
open Go.RowKit
def byteAt (n : Int) (i : Nat) : UInt8 := u8 (IntKind.u8.wrap (shrK .i64 n (8 * (i : Int))))
def putB (n : Int) (k : Nat) : List UInt8 := (List.range k).map (byteAt n)
theorem putB_len (n : Int) (k : Nat) : (putB n k).length = k := by simp [putB]
theorem putB_succ (n : Int) (k : Nat) : putB n (k + 1) = putB n k ++ [byteAt n k] := by simp [putB, List.range_succ]
theorem u8_toNat {z : Int} (h : 0 ≤ z ∧ z ≤ 255) : ((u8 z).toNat : Int) = z := by
  unfold u8
  rw [UInt8.toNat_ofNat']
  omega
theorem pow8 (i : Nat) (h : i < 8) : (2 : Int) ^ (min (8 * (i : Int)).toNat 64) = 256 ^ i := by
  have : min (8 * (i : Int)).toNat 64 = 8 * i := by omega
  rw [this, Int.pow_mul]
  rfl
theorem shr_i64 (n : Int) (i : Nat) (h : i < 8) : shrK .i64 n (8 * (i : Int)) = n / 256 ^ i := by
  unfold shrK
  rw [show IntKind.i64.bits = 64 from rfl, pow8 i h, Int.fdiv_eq_ediv_of_nonneg]
  exact Int.pow_nonneg (by decide)
theorem byteAt_toNat (n : Int) (i : Nat) (h : i < 8) : ((byteAt n i).toNat : Int) = n / 256 ^ i % 256 := by
  unfold byteAt
  rw [u8_toNat (wrapU8_rng _), shr_i64 n i h, IntKind.wrap_u8]
def natL (p : List UInt8) : Nat → Nat
  | 0 => 0
  | k + 1 => natL p k + (p.getD k 0).toNat * 256 ^ k
theorem natL_lt (p : List UInt8) : ∀ k, natL p k < 256 ^ k
  | 0 => by simp [natL]
  | k + 1 => by
    have := natL_lt p k
    have h := UInt8.toNat_lt (p.getD k 0)
    rw [natL, Nat.pow_succ]
    have : (p.getD k 0).toNat * 256 ^ k ≤ 255 * 256 ^ k := Nat.mul_le_mul_right _ (by omega)
    omega
def getK (p : List UInt8) : Nat → Int
  | 0 => 0
  | k + 1 => lorK .u64 (getK p k) (shlK .u64 ((p.getD k 0).toNat : Int) (8 * (k : Int)))
theorem lor_u64 {a b : Nat} (ha : a < 2 ^ 64) (hb : b < 2 ^ 64) : lorK .u64 (a : Int) (b : Int) = ((a ||| b : Nat) : Int) := by
  unfold lorK
  have h1 : (BitVec.ofInt IntKind.u64.bits (a : Int) ||| BitVec.ofInt IntKind.u64.bits (b : Int)).toNat = a ||| b := by
    rw [BitVec.toNat_or]
    have e : ∀ x : Nat, x < 2 ^ 64 → (BitVec.ofInt IntKind.u64.bits (x : Int)).toNat = x := fun x hx => by
      rw [BitVec.toNat_ofInt]
      show ((x : Int) % ((2 ^ 64 : Nat) : Int)).toNat = x
      omega
    rw [e a ha, e b hb]
  rw [h1]
  have : a ||| b < 2 ^ 64 := Nat.or_lt_two_pow ha hb
  exact wr_u64 (by omega)
theorem shl_u64 {b k : Nat} (hb : b < 256) (hk : k < 8) : shlK .u64 (b : Int) (8 * (k : Int)) = ((b * 256 ^ k : Nat) : Int) := by
  unfold shlK
  rw [show IntKind.u64.bits = 64 from rfl, pow8 k hk]
  have : b * 256 ^ k < 2 ^ 64 := by
    have h8 : k = 0 ∨ k = 1 ∨ k = 2 ∨ k = 3 ∨ k = 4 ∨ k = 5 ∨ k = 6 ∨ k = 7 := by omega
    rcases h8 with rfl | rfl | rfl | rfl | rfl | rfl | rfl | rfl <;> simp only [Nat.reducePow] <;> omega
  have e : (b : Int) * 256 ^ k = ((b * 256 ^ k : Nat) : Int) := by simp
  rw [e]
  exact wr_u64 (by omega)
theorem getK_eq (p : List UInt8) : ∀ k, k ≤ 8 → getK p k = (natL p k : Int)
  | 0, _ => rfl
  | k + 1, h => by
    have ih := getK_eq p k (by omega)
    have hb := UInt8.toNat_lt (p.getD k 0)
    have hlt := natL_lt p k
    have hp : (256 : Nat) ^ k = 2 ^ (8 * k) := by rw [Nat.pow_mul]
    have h64 : 256 ^ (k + 1) ≤ 2 ^ 64 := by
      have : (256 : Nat) ^ (k + 1) ≤ 256 ^ 8 := Nat.pow_le_pow_right (by decide) h
      exact this
    have hs := natL_lt p (k + 1)
    rw [natL] at hs
    rw [getK, ih, shl_u64 hb (by omega), lor_u64 (by omega) (by omega), natL]
    congr 1
    have := Nat.two_pow_add_eq_or_of_lt (i := 8 * k) (b := natL p k) (by rw [← hp]; exact hlt) (p.getD k 0).toNat
    rw [← hp] at this
    rw [Nat.or_comm, Nat.mul_comm ((p.getD k 0).toNat), ← this, Nat.add_comm]
def getI (p : List UInt8) (k : Nat) : Int := IntKind.i64.wrap (natL p k : Int)
theorem getI_small (p : List UInt8) (k : Nat) (h : k ≤ 7) : getI p k = (natL p k : Int) := by
  unfold getI
  have := natL_lt p k
  have h2 : (256 : Nat) ^ k ≤ 256 ^ 7 := Nat.pow_le_pow_right (by decide) h
  exact wr64 (by omega)
theorem natL_putB (n : Int) : ∀ (k m : Nat) (q : List UInt8), k ≤ m → m ≤ 8 → (natL (putB n m ++ q) k : Int) = n % 256 ^ k
  | 0, m, q, _, _ => by simp [natL, Int.emod_one]
  | k + 1, m, q, h, h8 => by
    have ih := natL_putB n k m q (by omega) h8
    have e : (putB n m ++ q).getD k 0 = byteAt n k := by
      rw [List.getD_eq_getElem?_getD, List.getElem?_append_left (by rw [putB_len]; omega)]
      simp [putB, List.getElem?_range (by omega : k < m)]
    rw [natL, e]
    have hb := byteAt_toNat n k (by omega)
    have : ((natL (putB n m ++ q) k + (byteAt n k).toNat * 256 ^ k : Nat) : Int) = (natL (putB n m ++ q) k : Int) + ((byteAt n k).toNat : Int) * 256 ^ k := by simp
    rw [this, ih, hb, Int.pow_succ]
    have hpos : (0 : Int) < 256 ^ k := Int.pow_pos (by decide)
    rw [Int.mul_comm (256 ^ k) 256]
    have e1 := Int.emod_add_mul_ediv n (256 ^ k)
    have e2 := Int.emod_add_mul_ediv (n / 256 ^ k) 256
    have e3 : n / (256 * 256 ^ k) = n / 256 ^ k / 256 := by rw [Int.mul_comm, Int.ediv_ediv, if_neg (fun h => absurd h.1 (by omega))]; simp
    have e4 := Int.emod_add_mul_ediv n (256 * 256 ^ k)
    rw [e3] at e4
    generalize n / 256 ^ k = q at *
    generalize (256 : Int) ^ k = b at *
    have e5 : b * q = b * (q % 256) + 256 * b * (q / 256) := by
      conv => lhs; rw [← e2]
      rw [Int.mul_add, ← Int.mul_assoc, Int.mul_comm b 256]
    rw [Int.mul_comm (q % 256) b]
    omega
theorem dt {p : Prop} [Decidable p] (h : p) : decide p = true := decide_eq_true h
theorem df {p : Prop} [Decidable p] (h : ¬ p) : decide p = false := decide_eq_false h
theorem w8 {k : Nat} (h : k ≤ 1000) : IntKind.i64.wrap (8 * ((k : Nat) : Int)) = 8 * (k : Int) := wr64 (by omega)
theorem neq_t {a b : Int} (h : a ≠ b) : (a != b) = true := by simpa using h
theorem neq_f {a b : Int} (h : a = b) : (a != b) = false := by simpa using h
theorem getI_putB (n : Int) (q : List UInt8) (h : -9223372036854775808 ≤ n ∧ n ≤ 9223372036854775807) : getI (putB n 8 ++ q) 8 = n := by
  unfold getI
  have e := natL_putB n 8 8 q (Nat.le_refl _) (Nat.le_refl _)
  rw [e, IntKind.wrap_i64]
  simp only [Int.reducePow]
  omega
set_option maxRecDepth 100000
theorem cndT {α : Type} {c : Bool} {x y : α} (h : c = true) : cnd c x y = x := by subst h; rfl
theorem cndF {α : Type} {c : Bool} {x y : α} (h : c = false) : cnd c x y = y := by subst h; rfl
theorem gdT {α : Type} {c : Bool} {x : Option α} (h : c = true) : gd c x = x := by subst h; rfl
theorem bdS {α β : Type} {x : Option α} {t : α} {k : α → Option β} (h : x = some t) : bd x k = k t := by subst h; rfl
theorem bdI {α β : Type} (t : α) (k : α → Option β) : bd (some t) k = k t := rfl
theorem loop_cnt {σ ρ : Type} {B : σ → Option (Ctl σ ρ)} (S : Nat → σ) {r : ρ} {n : Nat} (h : ∀ i, i < n → B (S i) = some (.go (S (i + 1)))) (hd : B (S n) = some (.done r)) (hn : n < 18446744073709551616) : loopO fuelN B (S 0) = some r := by
  have key : ∀ k m, k ≤ n → k < m → loopO m B (S (n - k)) = some r := by
    intro k
    induction k with
    | zero =>
      intro m _ hm
      obtain ⟨j, rfl⟩ : ∃ j, m = j + 1 := ⟨m - 1, by omega⟩
      exact loopO_done hd
    | succ k ih =>
      intro m hk hm
      obtain ⟨j, rfl⟩ : ∃ j, m = j + 1 := ⟨m - 1, by omega⟩
      rw [loopO_go (h (n - (k + 1)) (by omega)), show n - (k + 1) + 1 = n - k by omega]
      exact ih j (by omega) (by omega)
  have := key n fuelN (Nat.le_refl _) (by show n < 18446744073709551616; exact hn)
  rw [Nat.sub_self] at this
  exact this
theorem getD_of {α : Type} {l : List α} {i : Nat} {d : α} (h : i < l.length) : l.getD i d = l[i] := by
  rw [List.getD_eq_getElem?_getD, List.getElem?_eq_getElem h]; rfl
theorem loop_meas {σ ρ : Type} {B : σ → Option (Ctl σ ρ)} (I : σ → Prop) (m : σ → Nat) {Q : ρ → Prop} (h : ∀ s, I s → (∃ s', B s = some (.go s') ∧ I s' ∧ m s' < m s) ∨ (∃ r, B s = some (.done r) ∧ Q r)) {s0 : σ} (h0 : I s0) (hm : m s0 < 18446744073709551615) : ∃ r, loopO fuelN B s0 = some r ∧ Q r := by
  have key : ∀ n s, m s < n → I s → ∃ r, loopO n B s = some r ∧ Q r := by
    intro n
    induction n with
    | zero => intro s hs; omega
    | succ n ih =>
      intro s hs hi
      rcases h s hi with ⟨s', h1, h2, h3⟩ | ⟨r, h1, h2⟩
      · rw [loopO_go h1]
        exact ih s' (by omega) h2
      · exact ⟨r, loopO_done h1, h2⟩
  exact key fuelN s0 (by show m s0 < 18446744073709551616; omega) h0
theorem o37_eq {l : List UInt8} (h : l.length ≤ 140737488355328) : o37 l = some l := by
  unfold o37
  rw [nlO_eq fun e => ?_]
  · rw [gdT (dt (by simp; omega))]; rfl
  · have : l = [] := by simpa using e
    subst this
    rfl
def crcS (r : Int) : Int := cond ((landK .u32 r 1) == (1 : Int)) (lxorK .u32 (shrK .u32 r 1) 3988292384) (shrK .u32 r 1)
def crcB (r : Int) (b : Int) : Int := crcS (crcS (crcS (crcS (crcS (crcS (crcS (crcS (lxorK .u32 r b))))))))
def crcR (r : Int) (p : List UInt8) : Int := p.foldl (fun r b => crcB r ((b.toNat : Nat) : Int)) r
def crcI (p : List UInt8) : Int := lxorK .u32 4294967295 (crcR (lxorK .u32 4294967295 0) p)
theorem cnd_cond {α : Type} (c : Bool) (x y : α) : cnd c x y = cond c x y := by cases c <;> rfl
def itS (n : Nat) (r : Int) : Int := Nat.rec r (fun _ x => crcS x) n
theorem o199_eq (r b : Int) : o199 r b = some (crcB r (IntKind.u32.wrap b)) := by
  unfold o199
  refine loop_cnt (n := 8) (fun i => (itS i (lxorK .u32 r (IntKind.u32.wrap b)), (i : Int))) (fun i hi => ?_) ?_ (by omega)
  · dsimp only
    rw [cndT (dt (by omega)), wr64 (x := (i : Int) + 1) (by omega), cnd_cond]
    show _ = some (Ctl.go (crcS (itS i _), _))
    unfold crcS
    cases (landK .u32 (itS i (lxorK .u32 r (IntKind.u32.wrap b))) 1 == 1) <;> rfl
  · dsimp only
    rw [cndF (df (by omega))]
    rfl
theorem o140_eq (c : Int) (p : List UInt8) (h : p.length ≤ 140737488355328) : o140 c p = some (lxorK .u32 4294967295 (crcR (lxorK .u32 4294967295 c) p)) := by
  unfold o140
  refine loop_cnt (n := p.length) (fun i => ((crcR (lxorK .u32 4294967295 c) (p.take i), p), (p.length : Int), (i : Int))) (fun i hi => ?_) ?_ (by omega)
  · dsimp only
    have hb := UInt8.toNat_lt (p.getD i 0)
    rw [cndT (dt (by omega)), gdT (dt (by omega)), Int.toNat_natCast, bdS (o199_eq _ _), wr64 (by omega), wr_u32 (by omega)]
    rw [List.take_succ_eq_append_getElem hi]
    unfold crcR
    rw [List.foldl_append]
    simp [List.getD_eq_getElem?_getD, List.getElem?_eq_getElem hi]
  · dsimp only
    rw [cndF (df (by omega)), List.take_length]
    rfl
theorem o74_eq (p : List UInt8) (h : p.length ≤ 140737488355328) : o74 p = some (crcI p) := by
  unfold o74
  rw [bdS (o140_eq _ _ h)]
  rfl
def seal4 (c : Int) : List UInt8 := [u8 (IntKind.u8.wrap c), u8 (IntKind.u8.wrap (shrK .u32 c 8)), u8 (IntKind.u8.wrap (shrK .u32 c 16)), u8 (IntKind.u8.wrap (shrK .u32 c 24))]
theorem o33_eq (p : List UInt8) (h : p.length ≤ 140737488355000) : o33 p = some (p ++ seal4 (crcI p)) := by
  unfold o33
  rw [bdS (o74_eq _ (by omega)), bdS (o37_eq (by omega)), gdT (dt (by simp; omega))]
  rfl
theorem u8_eq_iff {b : UInt8} {z : Int} (h : 0 ≤ z ∧ z ≤ 255) : ((b.toNat : Nat) : Int) = z ↔ b = u8 z := by
  have hb := UInt8.toNat_lt b
  constructor
  · intro e
    subst e
    apply UInt8.toNat_inj.1
    unfold u8
    rw [UInt8.toNat_ofNat']
    omega
  · intro e
    subst e
    unfold u8
    rw [UInt8.toNat_ofNat']
    omega
theorem wu8 (z : Int) : 0 ≤ IntKind.u8.wrap z ∧ IntKind.u8.wrap z ≤ 255 := by
  have := inK_wrap .u8 z
  simpa [inK, IntKind.min, IntKind.max, IntKind.signed, IntKind.bits] using this
theorem drop4 {q : List UInt8} {n : Nat} (h : q.length = n + 4) : q.drop n = [q.getD n 0, q.getD (n + 1) 0, q.getD (n + 2) 0, q.getD (n + 3) 0] := by
  apply List.ext_getElem?
  intro i
  rw [List.getElem?_drop]
  match i with
  | 0 => simp [List.getD_eq_getElem?_getD, List.getElem?_eq_getElem (show n < q.length by omega)]
  | 1 => simp [List.getD_eq_getElem?_getD, List.getElem?_eq_getElem (show n + 1 < q.length by omega)]
  | 2 => simp [List.getD_eq_getElem?_getD, List.getElem?_eq_getElem (show n + 2 < q.length by omega)]
  | 3 => simp [List.getD_eq_getElem?_getD, List.getElem?_eq_getElem (show n + 3 < q.length by omega)]
  | i + 4 => rw [List.getElem?_eq_none (by omega)]; simp
def opn (q : List UInt8) : List UInt8 × Int := if q.drop (q.length - 4) = seal4 (crcI (q.take (q.length - 4))) then (q.take (q.length - 4), 0) else ([], 12)
theorem bne_b {b : UInt8} {z : Int} (h : 0 ≤ z ∧ z ≤ 255) : ((((b.toNat : Nat) : Int) != z) = true ↔ b ≠ u8 z) := by
  rw [bne_iff_ne, Ne, u8_eq_iff h]
theorem o79_eq {q : List UInt8} (h : 4 ≤ q.length) (hl : q.length ≤ 140737488355328) : o79 q = some (opn q) := by
  obtain ⟨n, hn⟩ : ∃ n, q.length = n + 4 := ⟨q.length - 4, by omega⟩
  have e0 : IntKind.wrap .i64 (((q.length : Nat) : Int) - (4 : Int)) = (n : Int) := by rw [wr64 (by omega)]; omega
  have ht : (List.take n q).length ≤ 140737488355328 := by rw [List.length_take]; omega
  unfold o79
  rw [e0, cndF (df (by omega)), gdT (dt (by omega)), Int.toNat_natCast, bdS (o74_eq _ ht), gdT (dt (by omega))]
  have e1 : IntKind.wrap .i64 ((n : Int) + 1) = ((n + 1 : Nat) : Int) := by rw [wr64 (by omega)]; omega
  have e2 : IntKind.wrap .i64 ((n : Int) + 2) = ((n + 2 : Nat) : Int) := by rw [wr64 (by omega)]; omega
  have e3 : IntKind.wrap .i64 ((n : Int) + 3) = ((n + 3 : Nat) : Int) := by rw [wr64 (by omega)]; omega
  rw [e1, e2, e3]
  rw [gdT (dt (by omega)), gdT (dt (by omega)), gdT (dt (by omega)), Int.toNat_natCast, Int.toNat_natCast, Int.toNat_natCast]
  have hopn : opn q = if ([q.getD n 0, q.getD (n + 1) 0, q.getD (n + 2) 0, q.getD (n + 3) 0] : List UInt8) = seal4 (crcI (q.take n)) then (q.take n, 0) else ([], 12) := by
    unfold opn
    rw [show q.length - 4 = n by omega, drop4 hn]
  rw [hopn]
  generalize crcI (List.take n q) = c
  have k0 := bne_b (b := q.getD n 0) (wu8 c)
  have k1 := bne_b (b := q.getD (n + 1) 0) (wu8 (shrK .u32 c 8))
  have k2 := bne_b (b := q.getD (n + 2) 0) (wu8 (shrK .u32 c 16))
  have k3 := bne_b (b := q.getD (n + 3) 0) (wu8 (shrK .u32 c 24))
  unfold seal4
  simp only [List.cons.injEq, and_true]
  cases h0 : (((UInt8.toNat (q.getD n 0) : Nat) : Int) != IntKind.u8.wrap c) with
  | true => rw [cndT rfl, bdI, cndT rfl, if_neg fun e => (k0.1 h0) e.1]
  | false =>
    rw [cndF rfl]
    have h0' : q.getD n 0 = u8 (IntKind.u8.wrap c) := Decidable.byContradiction fun e => by rw [k0.2 e] at h0; cases h0
    cases h1 : (((UInt8.toNat (q.getD (n + 1) 0) : Nat) : Int) != IntKind.u8.wrap (shrK .u32 c 8)) with
    | true => rw [cndT rfl, bdI, cndT rfl, if_neg fun e => (k1.1 h1) e.2.1]
    | false =>
      rw [cndF rfl]
      have h1' : q.getD (n + 1) 0 = u8 (IntKind.u8.wrap (shrK .u32 c 8)) := Decidable.byContradiction fun e => by rw [k1.2 e] at h1; cases h1
      cases h2 : (((UInt8.toNat (q.getD (n + 2) 0) : Nat) : Int) != IntKind.u8.wrap (shrK .u32 c 16)) with
      | true => rw [cndT rfl, bdI, cndT rfl, if_neg fun e => (k2.1 h2) e.2.2.1]
      | false =>
        rw [cndF rfl]
        have h2' : q.getD (n + 2) 0 = u8 (IntKind.u8.wrap (shrK .u32 c 16)) := Decidable.byContradiction fun e => by rw [k2.2 e] at h2; cases h2
        cases h3 : (((UInt8.toNat (q.getD (n + 3) 0) : Nat) : Int) != IntKind.u8.wrap (shrK .u32 c 24)) with
        | true => rw [bdI, cndT rfl, if_neg fun e => (k3.1 h3) e.2.2.2]
        | false =>
          have h3' : q.getD (n + 3) 0 = u8 (IntKind.u8.wrap (shrK .u32 c 24)) := Decidable.byContradiction fun e => by rw [k3.2 e] at h3; cases h3
          rw [bdI, cndF rfl, gdT (dt (by dsimp only; omega))]
          dsimp only
          rw [Int.toNat_natCast, bdS (o37_eq ht), if_pos ⟨h0', h1', h2', h3'⟩]
def c1 (x : Nat) : Nat := (x >>> 1) ^^^ (cond (x.testBit 0) 3988292384 0)
end Go.Proofs.YtpglaekodahcoaaGreatDoor
namespace Go.Proofs.YtpglaekodahcoaaGreatDoor
set_option linter.unusedVariables false
set_option linter.unusedSimpArgs false
set_option maxRecDepth 100000
open Go.RowKit
def i64R (x : Int) : Prop := -9223372036854775808 ≤ x ∧ x ≤ 9223372036854775807
theorem opn_seal (b : List UInt8) : opn (b ++ seal4 (crcI b)) = (b, 0) := by
  have hl : (b ++ seal4 (crcI b)).length - 4 = b.length := by simp [seal4]
  unfold opn
  rw [hl, List.take_left, List.drop_left, if_pos rfl]
theorem o31_eq {l w : List UInt8} (h : w.length + l.length ≤ 140737488355328) : o31 l w = some (w ++ l) := by
  unfold o31
  rw [gdT (dt (by omega))]
theorem shr8 (x : Int) : shrK .i64 x 8 = x / 256 := by
  have := shr_i64 x 1 (by decide)
  simpa using this
theorem div_pow (n : Int) (i : Nat) : n / 256 ^ i / 256 = n / 256 ^ (i + 1) := by
  rw [Int.pow_succ, ← Int.ediv_ediv_of_nonneg (Int.pow_nonneg (by decide))]
theorem o30_eq (n : Int) {k : Nat} (hk : k ≤ 8) {w : List UInt8} (h : w.length + k ≤ 140737488355328) : o30 n (k : Int) w = some (w ++ putB n k) := by
  unfold o30
  have e0 : (n, (k : Int)) = ((n / 256 ^ 0), (k : Int)) := by simp
  have e1 : w = w ++ putB n 0 := by simp [putB]
  rw [e0]
  conv => lhs; rw [e1]
  refine loop_cnt (n := k) (fun i => ((n / 256 ^ i, (k : Int)), (i : Int), w ++ putB n i)) (fun i hi => ?_) ?_ (by omega)
  · dsimp only
    rw [cndT (dt (by omega)), gdT (dt (by rw [List.length_append, putB_len]; simp; omega)), wr64 (by omega), shr8, div_pow, putB_succ, List.append_assoc]
    have : byteAt n i = u8 (IntKind.wrap .u8 (n / 256 ^ i)) := by unfold byteAt; rw [shr_i64 n i (by omega)]
    rw [this]
    rfl
  · dsimp only
    rw [cndF (df (by omega))]
    rfl
theorem o30v1_eq (n : Int) {k : Nat} (hk : k ≤ 8) : o30v1 n (k : Int) = some (putB n k) := by
  have := o30_eq n hk (w := []) (by simp; omega)
  rw [List.nil_append] at this
  exact this
def txB (s : List UInt8) : List UInt8 := u8 (IntKind.wrap .u8 ((s.length : Nat) : Int)) :: s
def txsB (l : List (List UInt8)) : List UInt8 := l.flatMap txB
theorem take_len {α : Type} {β : Type} (f : α → List β) {l : List α} {i : Nat} : ((l.take i).flatMap f).length ≤ (l.flatMap f).length := by
  have : l.flatMap f = (l.take i).flatMap f ++ (l.drop i).flatMap f := by rw [← List.flatMap_append, List.take_append_drop]
  rw [this, List.length_append]; omega
theorem flat_succ {α β : Type} (f : α → List β) {l : List α} {i : Nat} (h : i < l.length) : (l.take (i + 1)).flatMap f = (l.take i).flatMap f ++ f l[i] := by
  rw [List.take_succ_eq_append_getElem h, List.flatMap_append]; simp
theorem o27v1_eq {l : List (List UInt8)} {w : List UInt8} (h : w.length + (txsB l).length ≤ 140737488355328) (hl : l.length ≤ 1000000) : o27v1 l w = some (w ++ txsB l) := by
  unfold o27v1
  have e1 : w = w ++ (l.take 0).flatMap txB := by simp
  conv => lhs; rw [e1]
  refine loop_cnt (n := l.length) (fun i => ((l, ((l.length : Nat) : Int)), (i : Int), w ++ (l.take i).flatMap txB)) (fun i hi => ?_) ?_ (by omega)
  · dsimp only
    have hle := take_len txB (l := l) (i := i + 1)
    rw [flat_succ txB hi, List.length_append] at hle
    have hg : l.getD i [] = l[i] := by rw [List.getD_eq_getElem?_getD, List.getElem?_eq_getElem hi]; rfl
    unfold txsB at h
    have hx : (txB l[i]).length = l[i].length + 1 := by simp [txB]
    rw [hx] at hle
    rw [cndT (dt (by omega)), gdT (dt (by omega)), Int.toNat_natCast, hg, gdT (dt (by simp only [List.length_append, List.length_cons, List.length_nil]; omega)), gdT (dt (by simp only [List.length_append, List.length_cons, List.length_nil]; omega)), wr64 (by omega), flat_succ txB hi]
    simp [txB]
  · dsimp only
    rw [cndF (df (by omega)), List.take_length]
    rfl
theorem o27_eq {l : List (List UInt8)} (h : (txsB l).length ≤ 140737488355328) (hl : l.length ≤ 1000000) : o27 l = some (txsB l) := by
  have := o27v1_eq (w := []) (l := l) (by simpa using h) hl
  rw [List.nil_append] at this
  exact this
def nsB (l : List Int) : List UInt8 := l.flatMap fun n => putB n 8
theorem o28_eq {l : List Int} {w : List UInt8} (h : w.length + (nsB l).length ≤ 140737488355328) (hl : l.length ≤ 1000000) : o28 l w = some (w ++ nsB l) := by
  unfold o28
  have e1 : w = w ++ (l.take 0).flatMap fun n => putB n 8 := by simp
  conv => lhs; rw [e1]
  refine loop_cnt (n := l.length) (fun i => ((l, ((l.length : Nat) : Int)), (i : Int), w ++ (l.take i).flatMap fun n => putB n 8)) (fun i hi => ?_) ?_ (by omega)
  · dsimp only
    have hle := take_len (fun n => putB n 8) (l := l) (i := i + 1)
    rw [flat_succ _ hi, List.length_append, putB_len] at hle
    have hg : l.getD i 0 = l[i] := by rw [List.getD_eq_getElem?_getD, List.getElem?_eq_getElem hi]; rfl
    unfold nsB at h
    have h8 := o30_eq l[i] (k := 8) (by decide) (w := w ++ (l.take i).flatMap fun n => putB n 8) (by rw [List.length_append]; omega)
    rw [cndT (dt (by omega)), gdT (dt (by omega)), Int.toNat_natCast, hg]
    refine (bdS h8).trans ?_
    rw [wr64 (by omega), flat_succ _ hi, List.append_assoc]
    rfl
  · dsimp only
    rw [cndF (df (by omega)), List.take_length]
    rfl
def secB (tag : Int) (c : List UInt8) : List UInt8 := u8 tag :: (putB ((c.length : Nat) : Int) 4 ++ c)
theorem o29_eq {tag : Int} {c w : List UInt8} (h : w.length + c.length + 5 ≤ 140737488355328) : o29 tag c w = some (w ++ secB tag c) := by
  unfold o29
  have h1 := o31_eq (l := [u8 tag]) (w := w) (by simp; omega)
  have h2 := o30_eq ((c.length : Nat) : Int) (k := 4) (by decide) (w := w ++ [u8 tag]) (by simp; omega)
  rw [bdS h1]
  refine (bdS h2).trans ?_
  rw [gdT (dt (by simp [putB_len]; omega))]
  simp [secB]
theorem dnE {α β : Type} {x : Option β} {r : β} (h : x = some r) : dnO (α := α) x = some (.done r) := by subst h; rfl
abbrev Leg_ := Int × List UInt8 × List UInt8 × Int × Bool × Int × Int × Int × Int × (Int × Int) × Int × Int
def lgB (l : Leg_) : List UInt8 :=
  u8 l.1 :: (txsB [l.2.1, l.2.2.1] ++ [u8 l.2.2.2.1, u8 (cond l.2.2.2.2.1 1 0)] ++
    nsB [l.2.2.2.2.2.1, l.2.2.2.2.2.2.1, l.2.2.2.2.2.2.2.1, l.2.2.2.2.2.2.2.2.1, l.2.2.2.2.2.2.2.2.2.1.1, l.2.2.2.2.2.2.2.2.2.1.2, l.2.2.2.2.2.2.2.2.2.2.1, l.2.2.2.2.2.2.2.2.2.2.2])
theorem nsB_len (l : List Int) : (nsB l).length = 8 * l.length := by
  unfold nsB
  induction l with
  | nil => rfl
  | cons a l ih => rw [List.flatMap_cons, List.length_append, ih, putB_len]; simp; omega
theorem lgB_len (l : Leg_) : (lgB l).length = 69 + l.2.1.length + l.2.2.1.length := by
  unfold lgB
  simp only [List.length_cons, List.length_append, nsB_len, txsB, txB, List.flatMap_cons, List.flatMap_nil, List.length_nil]
  omega
theorem o32_eq {l : Leg_} {w : List UInt8} (h : w.length + (lgB l).length ≤ 140737488355328) :
    o32 (((l.1, l.2.1, l.2.2.1), l.2.2.2.1, l.2.2.2.2.1, l.2.2.2.2.2.1), (l.2.2.2.2.2.2.1, l.2.2.2.2.2.2.2.1, l.2.2.2.2.2.2.2.2.1), l.2.2.2.2.2.2.2.2.2) w = some (w ++ lgB l) := by
  obtain ⟨t, fx, ce, tu, ov, co, di, ra, th, ⟨lo, hi⟩, sp, rn⟩ := l
  rw [lgB_len] at h
  dsimp only at h ⊢
  have e : ∀ b : Bool, (cnd b (some ((1 : Int), w, (((t, fx, ce), tu, b, co), (di, ra, th), (lo, hi), sp, rn))) (some ((0 : Int), w, (((t, fx, ce), tu, b, co), (di, ra, th), (lo, hi), sp, rn)))) = some (cond b (1 : Int) 0, w, (((t, fx, ce), tu, b, co), (di, ra, th), (lo, hi), sp, rn)) := by intro b; cases b <;> rfl
  unfold o32
  refine (bdS (e ov)).trans ?_
  dsimp only
  have h1 := o31_eq (l := [u8 t]) (w := w) (by simp; omega)
  have hx : (txsB [fx, ce]).length = fx.length + ce.length + 2 := by simp [txsB, txB]; omega
  have h2 := o27v1_eq (l := [fx, ce]) (w := w ++ [u8 t]) (by simp [hx]; omega) (by simp)
  have h3 := o31_eq (l := [u8 tu, u8 (cond ov 1 0)]) (w := w ++ [u8 t] ++ txsB [fx, ce]) (by simp [hx]; omega)
  have h4 := o28_eq (l := [co, di, ra, th, lo, hi, sp, rn]) (w := w ++ [u8 t] ++ txsB [fx, ce] ++ [u8 tu, u8 (cond ov 1 0)]) (by simp [hx, nsB_len]; omega) (by simp)
  refine (bdS h1).trans ?_
  refine (bdS h2).trans ?_
  refine (bdS h3).trans ?_
  refine (bdS h4).trans ?_
  simp [lgB]
theorem loop_c {σ ρ : Type} {B : σ → Option (Ctl σ ρ)} (S : Nat → σ) {s0 : σ} (h0 : S 0 = s0) {r : ρ} {n : Nat} (h : ∀ i, i < n → B (S i) = some (.go (S (i + 1)))) (hd : B (S n) = some (.done r)) (hn : n < 18446744073709551616) : loopO fuelN B s0 = some r := by
  subst h0
  exact loop_cnt S h hd hn
abbrev Fix_ := List UInt8 × List UInt8 × Int × (Int × Int) × Int × Int
abbrev Pt_ := List UInt8 × (Int × Int) × Int
abbrev Air_ := List UInt8 × List Pt_
abbrev Part_ := Int × List UInt8 × List Leg_
abbrev Proc_ := List UInt8 × List UInt8 × Int × List Part_
abbrev DB_ := ((List UInt8 × Int) × Int × Int) × (Int × Int) × List Fix_ × List Air_ × List Proc_
def lsB {α : Type} (f : α → List UInt8) (l : List α) : List UInt8 := putB ((l.length : Nat) : Int) 2 ++ l.flatMap f
def fxB (f : Fix_) : List UInt8 := txsB [f.1, f.2.1] ++ (u8 f.2.2.1 :: nsB [f.2.2.2.1.1, f.2.2.2.1.2, f.2.2.2.2.1, f.2.2.2.2.2])
def ptB (p : Pt_) : List UInt8 := txsB [p.1] ++ (nsB [p.2.1.1, p.2.1.2] ++ [u8 p.2.2])
def awB (a : Air_) : List UInt8 := txsB [a.1] ++ lsB ptB a.2
def paB (x : Part_) : List UInt8 := u8 x.1 :: (txsB [x.2.1] ++ lsB lgB x.2.2)
def prB (p : Proc_) : List UInt8 := txsB [p.1, p.2.1] ++ (u8 p.2.2.1 :: lsB paB p.2.2.2)
def hdB (x : DB_) : List UInt8 := txsB [x.1.1.1] ++ nsB [x.1.1.2, x.1.2.1, x.1.2.2, x.2.1.1, x.2.1.2]
def magic : List UInt8 := [u8 70, u8 68, u8 66, u8 49]
def imgB (x : DB_) : List UInt8 := magic ++ secB 1 (hdB x) ++ secB 2 (lsB fxB x.2.2.1) ++ secB 3 (lsB awB x.2.2.2.1) ++ secB 4 (lsB prB x.2.2.2.2)
theorem secB_len (t : Int) (c : List UInt8) : (secB t c).length = c.length + 5 := by simp [secB, putB_len]; omega
theorem lsB_len {α : Type} (f : α → List UInt8) (l : List α) : (lsB f l).length = 2 + (l.flatMap f).length := by simp [lsB, putB_len]
theorem flat_mem {α β : Type} (f : α → List β) {l : List α} {i : Nat} (h : i < l.length) : ((l.take i).flatMap f).length + (f l[i]).length ≤ (l.flatMap f).length := by
  have := take_len f (l := l) (i := i + 1)
  rwa [flat_succ f h, List.length_append] at this
theorem flat_cnt {α β : Type} (f : α → List β) (h : ∀ a, 1 ≤ (f a).length) : ∀ l : List α, l.length ≤ (l.flatMap f).length
  | [] => Nat.le_refl _
  | a :: l => by
    have := flat_cnt f h l
    have := h a
    simp only [List.flatMap_cons, List.length_append, List.length_cons]; omega
theorem getD_ix {α : Type} {l : List α} {i : Nat} {d : α} (h : i < l.length) : l.getD i d = l[i] := by rw [List.getD_eq_getElem?_getD, List.getElem?_eq_getElem h]; rfl
theorem fxB_len (f : Fix_) : (fxB f).length = 35 + f.1.length + f.2.1.length := by
  simp only [fxB, List.length_append, List.length_cons, nsB_len, txsB, txB, List.flatMap_cons, List.flatMap_nil, List.length_nil]; omega
theorem fx_step {f : Fix_} {w : List UInt8} (h : w.length + (fxB f).length ≤ 140737488355328) {β : Type} {k : List UInt8 → Option β} :
    bd (α := List UInt8) (o27v1 ([f.1, f.2.1] : List (List UInt8)) w) (fun v9 => bd (α := List UInt8) (o31 ([(u8 f.2.2.1)] : List UInt8) v9) (fun v10 => bd (α := List UInt8) (o28 ([f.2.2.2.1.1, f.2.2.2.1.2, f.2.2.2.2.1, f.2.2.2.2.2] : List Int) v10) k)) = k (w ++ fxB f) := by
  rw [fxB_len] at h
  have hx : (txsB [f.1, f.2.1]).length = f.1.length + f.2.1.length + 2 := by simp [txsB, txB]; omega
  refine (bdS (o27v1_eq (by rw [hx]; omega) (by simp))).trans ?_
  refine (bdS (o31_eq (by simp [hx]; omega))).trans ?_
  refine (bdS (o28_eq (by simp [hx, nsB_len]; omega) (by simp))).trans ?_
  simp [fxB]
theorem ptB_len (p : Pt_) : (ptB p).length = 18 + p.1.length := by
  simp only [ptB, List.length_append, List.length_cons, nsB_len, txsB, txB, List.flatMap_cons, List.flatMap_nil, List.length_nil]; omega
theorem pt_step {p : Pt_} {w : List UInt8} (h : w.length + (ptB p).length ≤ 140737488355328) {β : Type} {k : List UInt8 → Option β} :
    bd (α := List UInt8) (o27v1 ([p.1] : List (List UInt8)) w) (fun v9 => bd (α := List UInt8) (o28 ([p.2.1.1, p.2.1.2] : List Int) v9) (fun v10 => bd (α := List UInt8) (o31 ([(u8 p.2.2)] : List UInt8) v10) k)) = k (w ++ ptB p) := by
  rw [ptB_len] at h
  have hx : (txsB [p.1]).length = p.1.length + 1 := by simp [txsB, txB]
  refine (bdS (o27v1_eq (by rw [hx]; omega) (by simp))).trans ?_
  refine (bdS (o28_eq (by simp [hx, nsB_len]; omega) (by simp))).trans ?_
  refine (bdS (o31_eq (by simp [hx, nsB_len]; omega))).trans ?_
  simp [ptB]
theorem one_txs (l : List UInt8) : (txsB [l]).length = l.length + 1 := by simp [txsB, txB]
theorem two_txs (l m : List UInt8) : (txsB [l, m]).length = l.length + m.length + 2 := by simp [txsB, txB]; omega
theorem fx_pos (f : Fix_) : 1 ≤ (fxB f).length := by rw [fxB_len]; omega
theorem pt_pos (f : Pt_) : 1 ≤ (ptB f).length := by rw [ptB_len]; omega
theorem lg_pos (f : Leg_) : 1 ≤ (lgB f).length := by rw [lgB_len]; omega
theorem aw_len (a : Air_) : (awB a).length = a.1.length + 3 + (a.2.flatMap ptB).length := by simp only [awB, List.length_append, one_txs, lsB_len]; omega
theorem pa_len (a : Part_) : (paB a).length = a.2.1.length + 4 + (a.2.2.flatMap lgB).length := by simp only [paB, List.length_cons, List.length_append, one_txs, lsB_len]; omega
theorem pr_len (a : Proc_) : (prB a).length = a.1.length + a.2.1.length + 5 + (a.2.2.2.flatMap paB).length := by simp only [prB, List.length_cons, List.length_append, two_txs, lsB_len]; omega
theorem hd_len (x : DB_) : (hdB x).length = x.1.1.1.length + 41 := by simp only [hdB, List.length_append, one_txs, nsB_len, List.length_cons, List.length_nil]
theorem img_len (x : DB_) : (imgB x).length = 71 + x.1.1.1.length + (x.2.2.1.flatMap fxB).length + (x.2.2.2.1.flatMap awB).length + (x.2.2.2.2.flatMap prB).length := by
  simp only [imgB, List.length_append, secB_len, hd_len, lsB_len, magic, List.length_cons, List.length_nil]; omega
theorem o7v1_eq (x : DB_) (hc : o26v1 x = some 0) (hb : (imgB x).length ≤ 70368744177664) : o7v1 x = some (0, imgB x ++ seal4 (crcI (imgB x))) := by
  have hb0 := hb
  rw [img_len] at hb
  have nF := flat_cnt fxB fx_pos x.2.2.1
  have nA := flat_cnt awB (fun a => by rw [aw_len]; omega) x.2.2.2.1
  have nP := flat_cnt prB (fun a => by rw [pr_len]; omega) x.2.2.2.2
  unfold o7v1
  rw [bdS hc, cndF (show ((0 : Int) != 0) = false from rfl), gdT (show decide (0 < ([u8 70, u8 68, u8 66, u8 49] : List UInt8).length) = true from rfl)]
  refine (bdS (o27_eq (l := [x.1.1.1]) (by rw [one_txs]; omega) (by simp))).trans ?_
  refine (bdS (o28_eq (l := [x.1.1.2, x.1.2.1, x.1.2.2, x.2.1.1, x.2.1.2]) (by rw [one_txs, nsB_len]; simp; omega) (by simp))).trans ?_
  refine (bdS (o29_eq (tag := 1) (c := hdB x) (w := magic) (by rw [hd_len]; simp [magic]; omega))).trans ?_
  refine (bdS (o30v1_eq ((x.2.2.1.length : Nat) : Int) (k := 2) (by decide))).trans ?_
  refine loop_c (n := x.2.2.1.length) (fun i => ((x.2.2.1, ((x.2.2.1.length : Nat) : Int), (i : Int)), x, magic ++ secB 1 (hdB x), putB ((x.2.2.1.length : Nat) : Int) 2 ++ (x.2.2.1.take i).flatMap fxB)) (by simp) (fun i hi => ?_) ?_ (by omega)
  · dsimp only
    have hm := flat_mem fxB hi
    rw [cndT (dt (by omega)), gdT (dt (by omega)), bdI, Int.toNat_natCast, getD_ix hi]
    refine (fx_step (f := x.2.2.1[i]) (by rw [List.length_append, putB_len]; omega)).trans ?_
    rw [wr64 (by omega), flat_succ fxB hi, List.append_assoc]
    rfl
  dsimp only
  rw [cndF (df (by omega)), List.take_length]
  refine dnE ?_
  refine (bdS (o29_eq (tag := 2) (c := lsB fxB x.2.2.1) (w := magic ++ secB 1 (hdB x)) (by simp only [lsB_len, List.length_append, secB_len, hd_len, magic, List.length_cons, List.length_nil]; omega))).trans ?_
  refine (bdS (o30v1_eq ((x.2.2.2.1.length : Nat) : Int) (k := 2) (by decide))).trans ?_
  have hW2l : (magic ++ secB 1 (hdB x) ++ secB 2 (lsB fxB x.2.2.1)).length = 57 + x.1.1.1.length + (x.2.2.1.flatMap fxB).length := by
    simp only [List.length_append, secB_len, hd_len, lsB_len, magic, List.length_cons, List.length_nil]; omega
  generalize hW2 : magic ++ secB 1 (hdB x) ++ secB 2 (lsB fxB x.2.2.1) = W2 at hW2l ⊢
  refine loop_c (n := x.2.2.2.1.length) (fun i => ((x.2.2.2.1, ((x.2.2.2.1.length : Nat) : Int), (i : Int)), x, W2, putB ((x.2.2.2.1.length : Nat) : Int) 2 ++ (x.2.2.2.1.take i).flatMap awB)) (by simp) (fun i hi => ?_) ?_ (by omega)
  · dsimp only
    have hm := flat_mem awB hi
    rw [cndT (dt (by omega)), gdT (dt (by omega)), bdI, Int.toNat_natCast, getD_ix hi]
    generalize ha : x.2.2.2.1[i] = a at hm ⊢
    generalize hw : putB ((x.2.2.2.1.length : Nat) : Int) 2 ++ (x.2.2.2.1.take i).flatMap awB = w
    have hwl : w.length = 2 + ((x.2.2.2.1.take i).flatMap awB).length := by rw [← hw, List.length_append, putB_len]
    rw [aw_len] at hm
    have na := flat_cnt ptB pt_pos a.2
    refine (bdS (o27v1_eq (by rw [one_txs]; omega) (by simp))).trans ?_
    refine (bdS (o30_eq ((a.2.length : Nat) : Int) (k := 2) (by decide) (by rw [List.length_append, one_txs]; omega))).trans ?_
    refine loop_c (n := a.2.length) (fun j => (((x.2.2.2.1, ((x.2.2.2.1.length : Nat) : Int)), (i : Int), a.2), (((a.2.length : Nat) : Int), (j : Int)), x, W2, w ++ txsB [a.1] ++ putB ((a.2.length : Nat) : Int) 2 ++ (a.2.take j).flatMap ptB)) (by simp) (fun j hj => ?_) ?_ (by omega)
    · dsimp only
      have hm2 := flat_mem ptB hj
      rw [cndT (dt (by omega)), gdT (dt (by omega)), bdI, Int.toNat_natCast, getD_ix hj]
      refine (pt_step (p := a.2[j]) (by simp only [List.length_append, one_txs, putB_len]; omega)).trans ?_
      rw [wr64 (by omega), flat_succ ptB hj, List.append_assoc]
      rfl
    · dsimp only
      rw [cndF (df (by omega)), List.take_length]
      refine dnE ?_
      rw [wr64 (by omega)]
      have e : w ++ txsB [a.1] ++ putB ((a.2.length : Nat) : Int) 2 ++ a.2.flatMap ptB = putB ((x.2.2.2.1.length : Nat) : Int) 2 ++ (x.2.2.2.1.take (i + 1)).flatMap awB := by rw [flat_succ awB hi, ha, ← List.append_assoc, hw]; simp [awB, lsB]
      rw [e]
      rfl
  dsimp only
  rw [cndF (df (by omega)), List.take_length]
  refine dnE ?_
  refine (bdS (o29_eq (tag := 3) (c := lsB awB x.2.2.2.1) (w := W2) (by rw [lsB_len]; omega))).trans ?_
  refine (bdS (o30v1_eq ((x.2.2.2.2.length : Nat) : Int) (k := 2) (by decide))).trans ?_
  generalize hW : W2 ++ secB 3 (lsB awB x.2.2.2.1) = W
  refine loop_c (n := x.2.2.2.2.length) (fun i => ((x.2.2.2.2, ((x.2.2.2.2.length : Nat) : Int)), (i : Int), W, putB ((x.2.2.2.2.length : Nat) : Int) 2 ++ (x.2.2.2.2.take i).flatMap prB)) (by simp) (fun i hi => ?_) ?_ (by omega)
  · dsimp only
    have hm := flat_mem prB hi
    rw [cndT (dt (by omega)), gdT (dt (by omega)), bdI, Int.toNat_natCast, getD_ix hi]
    generalize ha : x.2.2.2.2[i] = a at hm ⊢
    generalize hw : putB ((x.2.2.2.2.length : Nat) : Int) 2 ++ (x.2.2.2.2.take i).flatMap prB = w
    have hwl : w.length = 2 + ((x.2.2.2.2.take i).flatMap prB).length := by rw [← hw, List.length_append, putB_len]
    rw [pr_len] at hm
    have na := flat_cnt paB (fun a => by rw [pa_len]; omega) a.2.2.2
    refine (bdS (o27v1_eq (by rw [two_txs]; omega) (by simp))).trans ?_
    refine (bdS (o31_eq (by simp only [List.length_append, two_txs, List.length_cons, List.length_nil]; omega))).trans ?_
    refine (bdS (o30_eq ((a.2.2.2.length : Nat) : Int) (k := 2) (by decide) (by simp only [List.length_append, two_txs, List.length_cons, List.length_nil]; omega))).trans ?_
    refine loop_c (n := a.2.2.2.length) (fun j => (((x.2.2.2.2, ((x.2.2.2.2.length : Nat) : Int)), (i : Int), a.2.2.2), (((a.2.2.2.length : Nat) : Int), (j : Int)), W, w ++ txsB [a.1, a.2.1] ++ [u8 a.2.2.1] ++ putB ((a.2.2.2.length : Nat) : Int) 2 ++ (a.2.2.2.take j).flatMap paB)) (by simp) (fun j hj => ?_) ?_ (by omega)
    · dsimp only
      have hm2 := flat_mem paB hj
      rw [cndT (dt (by omega)), gdT (dt (by omega)), bdI, Int.toNat_natCast, getD_ix hj]
      generalize hb1 : a.2.2.2[j] = b at hm2 ⊢
      generalize hv : w ++ txsB [a.1, a.2.1] ++ [u8 a.2.2.1] ++ putB ((a.2.2.2.length : Nat) : Int) 2 ++ (a.2.2.2.take j).flatMap paB = v
      have hvl : v.length = w.length + a.1.length + a.2.1.length + 5 + ((a.2.2.2.take j).flatMap paB).length := by rw [← hv]; simp only [List.length_append, two_txs, List.length_cons, List.length_nil, putB_len]; omega
      rw [pa_len] at hm2
      have nb := flat_cnt lgB lg_pos b.2.2
      refine (bdS (o31_eq (by simp only [List.length_cons, List.length_nil]; omega))).trans ?_
      refine (bdS (o27v1_eq (by simp only [List.length_append, one_txs, List.length_cons, List.length_nil]; omega) (by simp))).trans ?_
      refine (bdS (o30_eq ((b.2.2.length : Nat) : Int) (k := 2) (by decide) (by simp only [List.length_append, one_txs, List.length_cons, List.length_nil]; omega))).trans ?_
      refine loop_c (n := b.2.2.length) (fun k => (((x.2.2.2.2, ((x.2.2.2.2.length : Nat) : Int)), (i : Int), a.2.2.2, ((a.2.2.2.length : Nat) : Int)), ((j : Int), b.2.2, ((b.2.2.length : Nat) : Int)), (k : Int), W, v ++ [u8 b.1] ++ txsB [b.2.1] ++ putB ((b.2.2.length : Nat) : Int) 2 ++ (b.2.2.take k).flatMap lgB)) (by simp) (fun k hk => ?_) ?_ (by omega)
      · dsimp only
        have hm3 := flat_mem lgB hk
        rw [cndT (dt (by omega)), gdT (dt (by omega)), bdI, Int.toNat_natCast, getD_ix hk]
        refine (bdS (o32_eq (l := b.2.2[k]) (by simp only [List.length_append, one_txs, putB_len, List.length_cons, List.length_nil]; omega))).trans ?_
        rw [wr64 (by omega), flat_succ lgB hk, List.append_assoc]
        rfl
      · dsimp only
        rw [cndF (df (by omega)), List.take_length]
        refine dnE ?_
        rw [wr64 (by omega)]
        have e : v ++ [u8 b.1] ++ txsB [b.2.1] ++ putB ((b.2.2.length : Nat) : Int) 2 ++ b.2.2.flatMap lgB = w ++ txsB [a.1, a.2.1] ++ [u8 a.2.2.1] ++ putB ((a.2.2.2.length : Nat) : Int) 2 ++ (a.2.2.2.take (j + 1)).flatMap paB := by rw [flat_succ paB hj, hb1, ← List.append_assoc, hv]; simp [paB, lsB]
        rw [e]
        rfl
    · dsimp only
      rw [cndF (df (by omega)), List.take_length]
      refine dnE ?_
      rw [wr64 (by omega)]
      have e : w ++ txsB [a.1, a.2.1] ++ [u8 a.2.2.1] ++ putB ((a.2.2.2.length : Nat) : Int) 2 ++ a.2.2.2.flatMap paB = putB ((x.2.2.2.2.length : Nat) : Int) 2 ++ (x.2.2.2.2.take (i + 1)).flatMap prB := by rw [flat_succ prB hi, ha, ← List.append_assoc, hw]; simp [prB, lsB]
      rw [e]
      rfl
  dsimp only
  rw [cndF (df (by omega)), List.take_length]
  refine dnE ?_
  have hWl : W.length = 64 + x.1.1.1.length + (x.2.2.1.flatMap fxB).length + (x.2.2.2.1.flatMap awB).length := by
    rw [← hW, List.length_append, secB_len, lsB_len, hW2l]; omega
  refine (bdS (o29_eq (tag := 4) (c := lsB prB x.2.2.2.2) (w := W) (by rw [lsB_len]; omega))).trans ?_
  have e : W ++ secB 4 (lsB prB x.2.2.2.2) = imgB x := by rw [← hW, ← hW2]; rfl
  rw [e]
  refine (bdS (o33_eq (imgB x) (by omega))).trans ?_
  rfl
abbrev rdr (p : List UInt8) (at_ stop : Nat) : (List UInt8 × Int) × Int × Bool := ((p, (at_ : Int)), (stop : Int), false)
structure Ahead (p : List UInt8) (at_ stop : Nat) (q : List UInt8) : Prop where
  dr : p.drop at_ = q
  st : stop ≤ p.length
  ln : p.length ≤ 140737488355328
theorem Ahead.next {p c q : List UInt8} {at_ stop : Nat} (h : Ahead p at_ stop (c ++ q)) : Ahead p (at_ + c.length) stop q :=
  ⟨by rw [← List.drop_drop, h.dr, List.drop_left], h.st, h.ln⟩
theorem o80_eq {p c q : List UInt8} {at_ stop n : Nat} (h : Ahead p at_ stop (c ++ q)) (hn : c.length = n) (hs : at_ + n ≤ stop) : o80 (n : Int) (rdr p at_ stop) = some (c, rdr p (at_ + n) stop) := by
  have hst := h.st
  have hln := h.ln
  unfold o80 rdr
  dsimp only
  rw [cndF rfl, cndF (df (by omega)), wr64 (x := (stop : Int) - (at_ : Int)) (by omega), df (show ¬ (n : Int) > (stop : Int) - (at_ : Int) by omega), bdI]
  dsimp only
  rw [cndF rfl, wr64 (x := (at_ : Int) + (n : Int)) (by omega), gdT (dt (by omega))]
  rw [show (at_ : Int) + (n : Int) = ((at_ + n : Nat) : Int) by omega, Int.toNat_natCast, Int.toNat_natCast, h.dr, show at_ + n - at_ = n by omega, List.take_left' hn]
theorem o81_eq {p q : List UInt8} {b : UInt8} {at_ stop : Nat} (h : Ahead p at_ stop (b :: q)) (hs : at_ + 1 ≤ stop) : o81 (rdr p at_ stop) = some (((b.toNat : Nat) : Int), rdr p (at_ + 1) stop) := by
  unfold o81
  refine (bdS (o80_eq (n := 1) (c := [b]) (q := q) h rfl hs)).trans ?_
  rfl
theorem o82_eq {p c q : List UInt8} {at_ stop n : Nat} (h : Ahead p at_ stop (c ++ q)) (hn : c.length = n) (h8 : n ≤ 8) (hs : at_ + n ≤ stop) : o82 (n : Int) (rdr p at_ stop) = some (getI c n, rdr p (at_ + n) stop) := by
  unfold o82
  refine (bdS (o80_eq h hn hs)).trans ?_
  refine loop_c (n := n) (fun i => ((getK c i, c), ((c.length : Nat) : Int), (i : Int), rdr p (at_ + n) stop)) rfl (fun i hi => ?_) ?_ (by omega)
  · dsimp only
    have hb := UInt8.toNat_lt (c.getD i 0)
    rw [cndT (dt (by omega)), gdT (dt (by omega)), w8 (by omega), gdT (dt (by omega)), Int.toNat_natCast, wr64 (x := (i : Int) + 1) (by omega), wr_u64 (by omega)]
    rfl
  · dsimp only
    rw [cndF (df (by omega)), getK_eq c n h8]
    rfl
theorem o84_eq {p q : List UInt8} {m : Int} {at_ stop : Nat} (h : Ahead p at_ stop (putB m 8 ++ q)) (hs : at_ + 8 ≤ stop) (hm : i64R m) : o84 (rdr p at_ stop) = some (m, rdr p (at_ + 8) stop) := by
  unfold o84
  refine (bdS (o82_eq h (putB_len m 8) (by decide) hs)).trans ?_
  have := getI_putB m [] hm
  rw [List.append_nil] at this
  rw [this]
theorem o82_n {p q : List UInt8} {m k : Nat} {at_ stop : Nat} (h : Ahead p at_ stop (putB (m : Int) k ++ q)) (hk : k ≤ 7) (hs : at_ + k ≤ stop) (hm : m < 256 ^ k) : o82 (k : Int) (rdr p at_ stop) = some ((m : Int), rdr p (at_ + k) stop) := by
  refine (o82_eq h (putB_len m k) (by omega) hs).trans ?_
  have e := natL_putB (m : Int) k k [] (Nat.le_refl _) (by omega)
  rw [List.append_nil] at e
  rw [getI_small _ _ hk, e, Int.emod_eq_of_lt (by omega) (by exact_mod_cast hm)]
theorem o83_eq {p s q : List UInt8} {at_ stop : Nat} (h : Ahead p at_ stop (txB s ++ q)) (hs : at_ + (s.length + 1) ≤ stop) (hl : s.length ≤ 255) : o83 (rdr p at_ stop) = some (s, rdr p (at_ + (s.length + 1)) stop) := by
  have hw : IntKind.wrap .u8 ((s.length : Nat) : Int) = ((s.length : Nat) : Int) := by rw [IntKind.wrap_u8]; omega
  have hb : (((u8 ((s.length : Nat) : Int)).toNat : Nat) : Int) = ((s.length : Nat) : Int) := u8_toNat (by omega)
  unfold txB at h
  rw [hw] at h
  have h1 : Ahead p at_ stop (u8 ((s.length : Nat) : Int) :: (s ++ q)) := h
  unfold o83
  refine (bdS (o81_eq h1 (by omega))).trans ?_
  dsimp only
  rw [hb, wr64 (by omega)]
  have h2 : Ahead p (at_ + 1) stop (s ++ q) := Ahead.next (c := [u8 ((s.length : Nat) : Int)]) h1
  refine (bdS (o80_eq h2 rfl (by omega))).trans ?_
  rw [show at_ + 1 + s.length = at_ + (s.length + 1) by omega]
def u8R (x : Int) : Prop := 0 ≤ x ∧ x ≤ 255
theorem txB_len (s : List UInt8) : (txB s).length = s.length + 1 := by simp [txB]
section
variable {p q : List UInt8} {at_ stop : Nat}
theorem Ahead.tx {s : List UInt8} (h : Ahead p at_ stop (txB s ++ q)) : Ahead p (at_ + (s.length + 1)) stop q := by have := h.next; rwa [txB_len] at this
theorem Ahead.n8 {m : Int} {k : Nat} (h : Ahead p at_ stop (putB m k ++ q)) : Ahead p (at_ + k) stop q := by have := h.next; rwa [putB_len] at this
theorem Ahead.by1 {b : UInt8} (h : Ahead p at_ stop (b :: q)) : Ahead p (at_ + 1) stop q := Ahead.next (c := [b]) h
theorem o81_u8 {x : Int} (hx : u8R x) (h : Ahead p at_ stop (u8 x :: q)) (hs : at_ + 1 ≤ stop) : o81 (rdr p at_ stop) = some (x, rdr p (at_ + 1) stop) := by
  rw [o81_eq h hs, u8_toNat hx]
def okF (f : Fix_) : Prop := f.1.length ≤ 255 ∧ f.2.1.length ≤ 255 ∧ u8R f.2.2.1 ∧ i64R f.2.2.2.1.1 ∧ i64R f.2.2.2.1.2 ∧ i64R f.2.2.2.2.1 ∧ i64R f.2.2.2.2.2
theorem o86_eq {f : Fix_} (hf : okF f) (h : Ahead p at_ stop (fxB f ++ q)) (hs : at_ + (fxB f).length ≤ stop) :
    o86 (rdr p at_ stop) = some (((f.1, f.2.1, f.2.2.1), (f.2.2.2.1.1, f.2.2.2.1.2), f.2.2.2.2.1, f.2.2.2.2.2), rdr p (at_ + (fxB f).length) stop) := by
  obtain ⟨a, b, k, ⟨n1, n2⟩, n3, n4⟩ := f
  obtain ⟨f1, f2, f3, f4, f5, f6, f7⟩ := hf
  rw [fxB_len] at hs ⊢
  dsimp only at *
  have e : fxB (a, b, k, (n1, n2), n3, n4) ++ q = txB a ++ (txB b ++ (u8 k :: (putB n1 8 ++ (putB n2 8 ++ (putB n3 8 ++ (putB n4 8 ++ q)))))) := by simp [fxB, txsB, nsB]
  rw [e] at h
  unfold o86
  refine (bdS (o83_eq h (by omega) f1)).trans ?_
  have h := h.tx
  refine (bdS (o83_eq h (by omega) f2)).trans ?_
  have h := h.tx
  refine (bdS (o81_u8 f3 h (by omega))).trans ?_
  have h := h.by1
  refine (bdS (o84_eq h (by omega) f4)).trans ?_
  have h := h.n8
  refine (bdS (o84_eq h (by omega) f5)).trans ?_
  have h := h.n8
  refine (bdS (o84_eq h (by omega) f6)).trans ?_
  have h := h.n8
  refine (bdS (o84_eq h (by omega) f7)).trans ?_
  dsimp only
  rw [show at_ + (a.length + 1) + (b.length + 1) + 1 + 8 + 8 + 8 + 8 = at_ + (35 + a.length + b.length) by omega]
def okP (f : Pt_) : Prop := f.1.length ≤ 255 ∧ i64R f.2.1.1 ∧ i64R f.2.1.2 ∧ u8R f.2.2
theorem o149_eq {f : Pt_} (hf : okP f) (h : Ahead p at_ stop (ptB f ++ q)) (hs : at_ + (ptB f).length ≤ stop) :
    o149 (rdr p at_ stop) = some (((f.1, f.2.1.1), f.2.1.2, f.2.2), rdr p (at_ + (ptB f).length) stop) := by
  obtain ⟨a, ⟨n1, n2⟩, k⟩ := f
  obtain ⟨f1, f2, f3, f4⟩ := hf
  rw [ptB_len] at hs ⊢
  dsimp only at *
  have e : ptB (a, (n1, n2), k) ++ q = txB a ++ (putB n1 8 ++ (putB n2 8 ++ (u8 k :: q))) := by simp [ptB, txsB, nsB]
  rw [e] at h
  unfold o149
  refine (bdS (o83_eq h (by omega) f1)).trans ?_
  have h := h.tx
  refine (bdS (o84_eq h (by omega) f2)).trans ?_
  have h := h.n8
  refine (bdS (o84_eq h (by omega) f3)).trans ?_
  have h := h.n8
  refine (bdS (o81_u8 f4 h (by omega))).trans ?_
  dsimp only
  rw [show at_ + (a.length + 1) + 8 + 8 + 1 = at_ + (18 + a.length) by omega]
def okL (l : Leg_) : Prop := u8R l.1 ∧ l.2.1.length ≤ 255 ∧ l.2.2.1.length ≤ 255 ∧ u8R l.2.2.2.1 ∧ i64R l.2.2.2.2.2.1 ∧ i64R l.2.2.2.2.2.2.1 ∧ i64R l.2.2.2.2.2.2.2.1 ∧ i64R l.2.2.2.2.2.2.2.2.1 ∧ i64R l.2.2.2.2.2.2.2.2.2.1.1 ∧ i64R l.2.2.2.2.2.2.2.2.2.1.2 ∧ i64R l.2.2.2.2.2.2.2.2.2.2.1 ∧ i64R l.2.2.2.2.2.2.2.2.2.2.2
theorem o202_eq {l : Leg_} (hf : okL l) (h : Ahead p at_ stop (lgB l ++ q)) (hs : at_ + (lgB l).length ≤ stop) :
    o202 (rdr p at_ stop) = some ((((l.1, l.2.1, l.2.2.1), l.2.2.2.1, l.2.2.2.2.1, l.2.2.2.2.2.1), (l.2.2.2.2.2.2.1, l.2.2.2.2.2.2.2.1, l.2.2.2.2.2.2.2.2.1), l.2.2.2.2.2.2.2.2.2), rdr p (at_ + (lgB l).length) stop) := by
  obtain ⟨t, fx, ce, tu, ov, co, di, ra, th, ⟨lo, hi⟩, sp, rn⟩ := l
  obtain ⟨f1, f2, f3, f4, f5, f6, f7, f8, f9, f10, f11, f12⟩ := hf
  rw [lgB_len] at hs ⊢
  dsimp only at *
  have e : lgB (t, fx, ce, tu, ov, co, di, ra, th, (lo, hi), sp, rn) ++ q = u8 t :: (txB fx ++ (txB ce ++ (u8 tu :: (u8 (cond ov 1 0) :: (putB co 8 ++ (putB di 8 ++ (putB ra 8 ++ (putB th 8 ++ (putB lo 8 ++ (putB hi 8 ++ (putB sp 8 ++ (putB rn 8 ++ q)))))))))))) := by simp [lgB, txsB, nsB]
  rw [e] at h
  unfold o202
  refine (bdS (o81_u8 f1 h (by omega))).trans ?_
  have h := h.by1
  refine (bdS (o83_eq h (by omega) f2)).trans ?_
  have h := h.tx
  refine (bdS (o83_eq h (by omega) f3)).trans ?_
  have h := h.tx
  refine (bdS (o81_u8 f4 h (by omega))).trans ?_
  have h := h.by1
  have fo : u8R (cond ov (1 : Int) 0) := by cases ov <;> exact ⟨by decide, by decide⟩
  refine (bdS (o81_u8 fo h (by omega))).trans ?_
  have h := h.by1
  have hc : decide ((cond ov (1 : Int) 0) > (1 : Int)) = false := by cases ov <;> rfl
  dsimp only
  rw [hc, cndF rfl, bdI]
  dsimp only
  refine (bdS (o84_eq h (by omega) f5)).trans ?_
  have h := h.n8
  refine (bdS (o84_eq h (by omega) f6)).trans ?_
  have h := h.n8
  refine (bdS (o84_eq h (by omega) f7)).trans ?_
  have h := h.n8
  refine (bdS (o84_eq h (by omega) f8)).trans ?_
  have h := h.n8
  refine (bdS (o84_eq h (by omega) f9)).trans ?_
  have h := h.n8
  refine (bdS (o84_eq h (by omega) f10)).trans ?_
  have h := h.n8
  refine (bdS (o84_eq h (by omega) f11)).trans ?_
  have h := h.n8
  refine (bdS (o84_eq h (by omega) f12)).trans ?_
  dsimp only
  have hov : ((cond ov (1 : Int) 0) == (1 : Int)) = ov := by cases ov <;> rfl
  rw [hov, show at_ + 1 + (fx.length + 1) + (ce.length + 1) + 1 + 1 + 8 + 8 + 8 + 8 + 8 + 8 + 8 + 8 = at_ + (69 + fx.length + ce.length) by omega]
end
theorem flat_split {α β : Type} (f : α → List β) {l : List α} {i : Nat} (h : i < l.length) : l.flatMap f = (l.take i).flatMap f ++ (f l[i] ++ (l.drop (i + 1)).flatMap f) := by
  rw [← List.flatMap_cons, ← List.drop_eq_getElem_cons h, ← List.flatMap_append, List.take_append_drop]
section
variable {p q : List UInt8} {at_ stop : Nat}
theorem o85_eq {l : List Fix_} (hl : l.length ≤ 65535) (hf : ∀ a ∈ l, okF a) (h : Ahead p at_ stop (lsB fxB l ++ q)) (hs : at_ + (lsB fxB l).length ≤ stop) :
    o85 (rdr p at_ stop) = some (rdr p (at_ + (lsB fxB l).length) stop, l) := by
  have e : lsB fxB l ++ q = putB ((l.length : Nat) : Int) 2 ++ (l.flatMap fxB ++ q) := by simp [lsB]
  have hst := h.st
  have hln := h.ln
  rw [e] at h
  rw [lsB_len] at hs ⊢
  unfold o85
  refine (bdS (o82_n (k := 2) h (by decide) (by omega) (by omega))).trans ?_
  have h := h.n8
  refine loop_c (n := l.length) (fun i => ((((l.length : Nat) : Int), (i : Int)), rdr p (at_ + 2 + ((l.take i).flatMap fxB).length) stop, l.take i)) (by simp) (fun i hi => ?_) ?_ (by omega)
  · have hm := flat_mem fxB hi
    have hA : Ahead p (at_ + 2 + ((l.take i).flatMap fxB).length) stop (fxB l[i] ++ ((l.drop (i + 1)).flatMap fxB ++ q)) := by
      rw [flat_split fxB hi, List.append_assoc, List.append_assoc] at h
      exact h.next
    dsimp only
    rw [cndT (dt (by omega)), cndF rfl]
    refine (bdS (o86_eq (hf _ (List.getElem_mem hi)) hA (by omega))).trans ?_
    dsimp only
    rw [gdT (dt (by simp only [List.length_take, List.length_cons, List.length_nil]; omega)), wr64 (by omega), flat_succ fxB hi, List.length_append, ← Nat.add_assoc (at_ + 2), List.take_succ_eq_append_getElem hi]
    rfl
  · dsimp only
    rw [cndF (df (by omega)), List.take_length]
    refine dnE ?_
    rw [show at_ + 2 + (l.flatMap fxB).length = at_ + (2 + (l.flatMap fxB).length) by omega]
theorem o148_eq {l : List Pt_} (hl : l.length ≤ 65535) (hf : ∀ a ∈ l, okP a) (h : Ahead p at_ stop (lsB ptB l ++ q)) (hs : at_ + (lsB ptB l).length ≤ stop) :
    o148 (rdr p at_ stop) = some (rdr p (at_ + (lsB ptB l).length) stop, l) := by
  have e : lsB ptB l ++ q = putB ((l.length : Nat) : Int) 2 ++ (l.flatMap ptB ++ q) := by simp [lsB]
  have hst := h.st
  have hln := h.ln
  rw [e] at h
  rw [lsB_len] at hs ⊢
  unfold o148
  refine (bdS (o82_n (k := 2) h (by decide) (by omega) (by omega))).trans ?_
  have h := h.n8
  refine loop_c (n := l.length) (fun i => ((((l.length : Nat) : Int), (i : Int)), rdr p (at_ + 2 + ((l.take i).flatMap ptB).length) stop, l.take i)) (by simp) (fun i hi => ?_) ?_ (by omega)
  · have hm := flat_mem ptB hi
    have hA : Ahead p (at_ + 2 + ((l.take i).flatMap ptB).length) stop (ptB l[i] ++ ((l.drop (i + 1)).flatMap ptB ++ q)) := by
      rw [flat_split ptB hi, List.append_assoc, List.append_assoc] at h
      exact h.next
    dsimp only
    rw [cndT (dt (by omega)), cndF rfl]
    refine (bdS (o149_eq (hf _ (List.getElem_mem hi)) hA (by omega))).trans ?_
    dsimp only
    rw [gdT (dt (by simp only [List.length_take, List.length_cons, List.length_nil]; omega)), wr64 (by omega), flat_succ ptB hi, List.length_append, ← Nat.add_assoc (at_ + 2), List.take_succ_eq_append_getElem hi]
    rfl
  · dsimp only
    rw [cndF (df (by omega)), List.take_length]
    refine dnE ?_
    rw [show at_ + 2 + (l.flatMap ptB).length = at_ + (2 + (l.flatMap ptB).length) by omega]
theorem o201_eq {l : List Leg_} (hl : l.length ≤ 65535) (hf : ∀ a ∈ l, okL a) (h : Ahead p at_ stop (lsB lgB l ++ q)) (hs : at_ + (lsB lgB l).length ≤ stop) :
    o201 (rdr p at_ stop) = some (rdr p (at_ + (lsB lgB l).length) stop, l) := by
  have e : lsB lgB l ++ q = putB ((l.length : Nat) : Int) 2 ++ (l.flatMap lgB ++ q) := by simp [lsB]
  have hst := h.st
  have hln := h.ln
  rw [e] at h
  rw [lsB_len] at hs ⊢
  unfold o201
  refine (bdS (o82_n (k := 2) h (by decide) (by omega) (by omega))).trans ?_
  have h := h.n8
  refine loop_c (n := l.length) (fun i => ((((l.length : Nat) : Int), (i : Int)), rdr p (at_ + 2 + ((l.take i).flatMap lgB).length) stop, l.take i)) (by simp) (fun i hi => ?_) ?_ (by omega)
  · have hm := flat_mem lgB hi
    have hA : Ahead p (at_ + 2 + ((l.take i).flatMap lgB).length) stop (lgB l[i] ++ ((l.drop (i + 1)).flatMap lgB ++ q)) := by
      rw [flat_split lgB hi, List.append_assoc, List.append_assoc] at h
      exact h.next
    dsimp only
    rw [cndT (dt (by omega)), cndF rfl]
    refine (bdS (o202_eq (hf _ (List.getElem_mem hi)) hA (by omega))).trans ?_
    dsimp only
    rw [gdT (dt (by simp only [List.length_take, List.length_cons, List.length_nil]; omega)), wr64 (by omega), flat_succ lgB hi, List.length_append, ← Nat.add_assoc (at_ + 2), List.take_succ_eq_append_getElem hi]
    rfl
  · dsimp only
    rw [cndF (df (by omega)), List.take_length]
    refine dnE ?_
    rw [show at_ + 2 + (l.flatMap lgB).length = at_ + (2 + (l.flatMap lgB).length) by omega]
def okA (a : Air_) : Prop := a.1.length ≤ 255 ∧ a.2.length ≤ 65535 ∧ ∀ x ∈ a.2, okP x
theorem o88_eq {a : Air_} (hf : okA a) (h : Ahead p at_ stop (awB a ++ q)) (hs : at_ + (awB a).length ≤ stop) :
    o88 (rdr p at_ stop) = some (a.1, rdr p (at_ + (awB a).length) stop, a.2) := by
  obtain ⟨n, l⟩ := a
  obtain ⟨f1, f2, f3⟩ := hf
  have e : awB (n, l) ++ q = txB n ++ (lsB ptB l ++ q) := by simp [awB, txsB]
  have hn : (awB (n, l)).length = n.length + 1 + (lsB ptB l).length := by simp only [awB, List.length_append, one_txs]
  rw [hn] at hs ⊢
  rw [e] at h
  dsimp only at *
  unfold o88
  refine (bdS (o83_eq h (by omega) f1)).trans ?_
  have h := h.tx
  refine (bdS (o148_eq f2 f3 h (by omega))).trans ?_
  dsimp only
  rw [show at_ + (n.length + 1) + (lsB ptB l).length = at_ + (n.length + 1 + (lsB ptB l).length) by omega]
def okX (x : Part_) : Prop := u8R x.1 ∧ x.2.1.length ≤ 255 ∧ x.2.2.length ≤ 65535 ∧ ∀ y ∈ x.2.2, okL y
theorem o151_eq {a : Part_} (hf : okX a) (h : Ahead p at_ stop (paB a ++ q)) (hs : at_ + (paB a).length ≤ stop) :
    o151 (rdr p at_ stop) = some ((a.1, a.2.1), rdr p (at_ + (paB a).length) stop, a.2.2) := by
  obtain ⟨k, n, l⟩ := a
  obtain ⟨f0, f1, f2, f3⟩ := hf
  have e : paB (k, n, l) ++ q = u8 k :: (txB n ++ (lsB lgB l ++ q)) := by simp [paB, txsB]
  have hn : (paB (k, n, l)).length = n.length + 2 + (lsB lgB l).length := by simp only [paB, List.length_cons, List.length_append, one_txs]; omega
  rw [hn] at hs ⊢
  rw [e] at h
  dsimp only at *
  unfold o151
  refine (bdS (o81_u8 f0 h (by omega))).trans ?_
  have h := h.by1
  refine (bdS (o83_eq h (by omega) f1)).trans ?_
  have h := h.tx
  refine (bdS (o201_eq f2 f3 h (by omega))).trans ?_
  dsimp only
  rw [show at_ + 1 + (n.length + 1) + (lsB lgB l).length = at_ + (n.length + 2 + (lsB lgB l).length) by omega]
theorem o87_eq {l : List Air_} (hl : l.length ≤ 65535) (hf : ∀ a ∈ l, okA a) (h : Ahead p at_ stop (lsB awB l ++ q)) (hs : at_ + (lsB awB l).length ≤ stop) :
    o87 (rdr p at_ stop) = some (rdr p (at_ + (lsB awB l).length) stop, l) := by
  have e : lsB awB l ++ q = putB ((l.length : Nat) : Int) 2 ++ (l.flatMap awB ++ q) := by simp [lsB]
  have hst := h.st
  have hln := h.ln
  rw [e] at h
  rw [lsB_len] at hs ⊢
  unfold o87
  refine (bdS (o82_n (k := 2) h (by decide) (by omega) (by omega))).trans ?_
  have h := h.n8
  refine loop_c (n := l.length) (fun i => ((((l.length : Nat) : Int), (i : Int)), rdr p (at_ + 2 + ((l.take i).flatMap awB).length) stop, l.take i)) (by simp) (fun i hi => ?_) ?_ (by omega)
  · have hm := flat_mem awB hi
    have hA : Ahead p (at_ + 2 + ((l.take i).flatMap awB).length) stop (awB l[i] ++ ((l.drop (i + 1)).flatMap awB ++ q)) := by
      rw [flat_split awB hi, List.append_assoc, List.append_assoc] at h
      exact h.next
    dsimp only
    rw [cndT (dt (by omega)), cndF rfl]
    refine (bdS (o88_eq (hf _ (List.getElem_mem hi)) hA (by omega))).trans ?_
    dsimp only
    rw [gdT (dt (by simp only [List.length_take, List.length_cons, List.length_nil]; omega)), wr64 (by omega), flat_succ awB hi, List.length_append, ← Nat.add_assoc (at_ + 2), List.take_succ_eq_append_getElem hi]
    rfl
  · dsimp only
    rw [cndF (df (by omega)), List.take_length]
    refine dnE ?_
    rw [show at_ + 2 + (l.flatMap awB).length = at_ + (2 + (l.flatMap awB).length) by omega]
theorem o150_eq {l : List Part_} (hl : l.length ≤ 65535) (hf : ∀ a ∈ l, okX a) (h : Ahead p at_ stop (lsB paB l ++ q)) (hs : at_ + (lsB paB l).length ≤ stop) :
    o150 (rdr p at_ stop) = some (rdr p (at_ + (lsB paB l).length) stop, l) := by
  have e : lsB paB l ++ q = putB ((l.length : Nat) : Int) 2 ++ (l.flatMap paB ++ q) := by simp [lsB]
  have hst := h.st
  have hln := h.ln
  rw [e] at h
  rw [lsB_len] at hs ⊢
  unfold o150
  refine (bdS (o82_n (k := 2) h (by decide) (by omega) (by omega))).trans ?_
  have h := h.n8
  refine loop_c (n := l.length) (fun i => ((((l.length : Nat) : Int), (i : Int)), rdr p (at_ + 2 + ((l.take i).flatMap paB).length) stop, l.take i)) (by simp) (fun i hi => ?_) ?_ (by omega)
  · have hm := flat_mem paB hi
    have hA : Ahead p (at_ + 2 + ((l.take i).flatMap paB).length) stop (paB l[i] ++ ((l.drop (i + 1)).flatMap paB ++ q)) := by
      rw [flat_split paB hi, List.append_assoc, List.append_assoc] at h
      exact h.next
    dsimp only
    rw [cndT (dt (by omega)), cndF rfl]
    refine (bdS (o151_eq (hf _ (List.getElem_mem hi)) hA (by omega))).trans ?_
    dsimp only
    rw [gdT (dt (by simp only [List.length_take, List.length_cons, List.length_nil]; omega)), wr64 (by omega), flat_succ paB hi, List.length_append, ← Nat.add_assoc (at_ + 2), List.take_succ_eq_append_getElem hi]
    rfl
  · dsimp only
    rw [cndF (df (by omega)), List.take_length]
    refine dnE ?_
    rw [show at_ + 2 + (l.flatMap paB).length = at_ + (2 + (l.flatMap paB).length) by omega]
def okR (x : Proc_) : Prop := x.1.length ≤ 255 ∧ x.2.1.length ≤ 255 ∧ u8R x.2.2.1 ∧ x.2.2.2.length ≤ 65535 ∧ ∀ y ∈ x.2.2.2, okX y
theorem o90_eq {a : Proc_} (hf : okR a) (h : Ahead p at_ stop (prB a ++ q)) (hs : at_ + (prB a).length ≤ stop) :
    o90 (rdr p at_ stop) = some ((a.1, a.2.1, a.2.2.1), rdr p (at_ + (prB a).length) stop, a.2.2.2) := by
  obtain ⟨m, n, k, l⟩ := a
  obtain ⟨f0, f1, f2, f3, f4⟩ := hf
  have e : prB (m, n, k, l) ++ q = txB m ++ (txB n ++ (u8 k :: (lsB paB l ++ q))) := by simp [prB, txsB]
  have hn : (prB (m, n, k, l)).length = m.length + n.length + 3 + (lsB paB l).length := by simp only [prB, List.length_cons, List.length_append, two_txs]; omega
  rw [hn] at hs ⊢
  rw [e] at h
  dsimp only at *
  unfold o90
  refine (bdS (o83_eq h (by omega) f0)).trans ?_
  have h := h.tx
  refine (bdS (o83_eq h (by omega) f1)).trans ?_
  have h := h.tx
  refine (bdS (o81_u8 f2 h (by omega))).trans ?_
  have h := h.by1
  refine (bdS (o150_eq f3 f4 h (by omega))).trans ?_
  dsimp only
  rw [show at_ + (m.length + 1) + (n.length + 1) + 1 + (lsB paB l).length = at_ + (m.length + n.length + 3 + (lsB paB l).length) by omega]
theorem o89_eq {l : List Proc_} (hl : l.length ≤ 65535) (hf : ∀ a ∈ l, okR a) (h : Ahead p at_ stop (lsB prB l ++ q)) (hs : at_ + (lsB prB l).length ≤ stop) :
    o89 (rdr p at_ stop) = some (rdr p (at_ + (lsB prB l).length) stop, l) := by
  have e : lsB prB l ++ q = putB ((l.length : Nat) : Int) 2 ++ (l.flatMap prB ++ q) := by simp [lsB]
  have hst := h.st
  have hln := h.ln
  rw [e] at h
  rw [lsB_len] at hs ⊢
  unfold o89
  refine (bdS (o82_n (k := 2) h (by decide) (by omega) (by omega))).trans ?_
  have h := h.n8
  refine loop_c (n := l.length) (fun i => ((((l.length : Nat) : Int), (i : Int)), rdr p (at_ + 2 + ((l.take i).flatMap prB).length) stop, l.take i)) (by simp) (fun i hi => ?_) ?_ (by omega)
  · have hm := flat_mem prB hi
    have hA : Ahead p (at_ + 2 + ((l.take i).flatMap prB).length) stop (prB l[i] ++ ((l.drop (i + 1)).flatMap prB ++ q)) := by
      rw [flat_split prB hi, List.append_assoc, List.append_assoc] at h
      exact h.next
    dsimp only
    rw [cndT (dt (by omega)), cndF rfl]
    refine (bdS (o90_eq (hf _ (List.getElem_mem hi)) hA (by omega))).trans ?_
    dsimp only
    rw [gdT (dt (by simp only [List.length_take, List.length_cons, List.length_nil]; omega)), wr64 (by omega), flat_succ prB hi, List.length_append, ← Nat.add_assoc (at_ + 2), List.take_succ_eq_append_getElem hi]
    rfl
  · dsimp only
    rw [cndF (df (by omega)), List.take_length]
    refine dnE ?_
    rw [show at_ + 2 + (l.flatMap prB).length = at_ + (2 + (l.flatMap prB).length) by omega]
end
def okH (x : DB_) : Prop := x.1.1.1.length ≤ 255 ∧ i64R x.1.1.2 ∧ i64R x.1.2.1 ∧ i64R x.1.2.2 ∧ i64R x.2.1.1 ∧ i64R x.2.1.2
def okDB (x : DB_) : Prop := okH x ∧ (x.2.2.1.length ≤ 65535 ∧ ∀ a ∈ x.2.2.1, okF a) ∧ (x.2.2.2.1.length ≤ 65535 ∧ ∀ a ∈ x.2.2.2.1, okA a) ∧ (x.2.2.2.2.length ≤ 65535 ∧ ∀ a ∈ x.2.2.2.2, okR a)
theorem sec_head {b c q : List UInt8} {at_ : Nat} {t : Int} (ht : u8R t) (h : Ahead b at_ b.length (secB t c ++ q)) (hl : at_ + (c.length + 5) ≤ b.length) (h4 : c.length < 256 ^ 4) :
    o81 (rdr b at_ b.length) = some (t, rdr b (at_ + 1) b.length) ∧ o82 (4 : Int) (rdr b (at_ + 1) b.length) = some (((c.length : Nat) : Int), rdr b (at_ + 5) b.length) ∧ Ahead b (at_ + 5) (at_ + 5 + c.length) (c ++ q) := by
  have e : secB t c ++ q = u8 t :: (putB ((c.length : Nat) : Int) 4 ++ (c ++ q)) := by simp [secB]
  rw [e] at h
  have h1 := h.by1
  have h2 := h1.n8
  refine ⟨o81_u8 ht h (by omega), ?_, ⟨h2.dr, by omega, h2.ln⟩⟩
  exact o82_n (k := 4) h1 (by decide) (by omega) h4
theorem hd_read {b q : List UInt8} {at_ stop : Nat} {x : DB_} (hx : okH x) (h : Ahead b at_ stop (hdB x ++ q)) (hs : at_ + (hdB x).length ≤ stop) {β : Type} {k : _ → _ → _ → _ → _ → _ → Option β} :
    (bd (o83 (rdr b at_ stop)) fun v11 => bd (o84 v11.2) fun v12 => bd (o84 v12.2) fun v13 => bd (o84 v13.2) fun v14 => bd (o84 v14.2) fun v15 => bd (o84 v15.2) fun v16 => k v11 v12 v13 v14 v15 v16) =
      k (x.1.1.1, rdr b (at_ + (x.1.1.1.length + 1)) stop) (x.1.1.2, rdr b (at_ + (x.1.1.1.length + 1) + 8) stop) (x.1.2.1, rdr b (at_ + (x.1.1.1.length + 1) + 8 + 8) stop) (x.1.2.2, rdr b (at_ + (x.1.1.1.length + 1) + 8 + 8 + 8) stop) (x.2.1.1, rdr b (at_ + (x.1.1.1.length + 1) + 8 + 8 + 8 + 8) stop) (x.2.1.2, rdr b (at_ + (x.1.1.1.length + 1) + 8 + 8 + 8 + 8 + 8) stop) := by
  obtain ⟨f1, f2, f3, f4, f5, f6⟩ := hx
  rw [hd_len] at hs
  have e : hdB x ++ q = txB x.1.1.1 ++ (putB x.1.1.2 8 ++ (putB x.1.2.1 8 ++ (putB x.1.2.2 8 ++ (putB x.2.1.1 8 ++ (putB x.2.1.2 8 ++ q))))) := by simp [hdB, txsB, nsB]
  rw [e] at h
  refine (bdS (o83_eq h (by omega) f1)).trans ?_
  have h := h.tx
  refine (bdS (o84_eq h (by omega) f2)).trans ?_
  have h := h.n8
  refine (bdS (o84_eq h (by omega) f3)).trans ?_
  have h := h.n8
  refine (bdS (o84_eq h (by omega) f4)).trans ?_
  have h := h.n8
  refine (bdS (o84_eq h (by omega) f5)).trans ?_
  have h := h.n8
  exact (bdS (o84_eq h (by omega) f6)).trans rfl
theorem loop_4 {σ ρ : Type} {B : σ → Option (Ctl σ ρ)} {s0 s1 s2 s3 s4 : σ} {r : ρ} (h0 : B s0 = some (.go s1)) (h1 : B s1 = some (.go s2)) (h2 : B s2 = some (.go s3)) (h3 : B s3 = some (.go s4)) (h4 : B s4 = some (.done r)) : loopO fuelN B s0 = some r := by
  refine loop_cnt (n := 4) (fun i => match i with | 0 => s0 | 1 => s1 | 2 => s2 | 3 => s3 | _ => s4) (fun i hi => ?_) h4 (by decide)
  match i, hi with
  | 0, _ => exact h0
  | 1, _ => exact h1
  | 2, _ => exact h2
  | 3, _ => exact h3
theorem bdbd {α β γ : Type} {x : Option α} {t : α} {f : α → Option β} {g : β → Option γ} (h : x = some t) : bd (bd x f) g = bd (f t) g := by subst h; rfl
theorem o39_eq {x : DB_} (hx : okDB x) (hlen : (imgB x).length ≤ 1073741824) : ∃ s, o39 (imgB x ++ seal4 (crcI (imgB x))) = some ((((x.1.1.1, x.1.1.2, x.1.2.1), (x.1.2.2, x.2.1.1), x.2.1.2, 0), x.2.2.1), x.2.2.2.1, x.2.2.2.2, s) := by
  obtain ⟨hH, ⟨hF, hF2⟩, ⟨hA, hA2⟩, ⟨hP, hP2⟩⟩ := hx
  have himg : imgB x = magic ++ (secB 1 (hdB x) ++ (secB 2 (lsB fxB x.2.2.1) ++ (secB 3 (lsB awB x.2.2.2.1) ++ (secB 4 (lsB prB x.2.2.2.2) ++ [])))) := by simp [imgB]
  have hL : (imgB x).length = 24 + (hdB x).length + (lsB fxB x.2.2.1).length + (lsB awB x.2.2.2.1).length + (lsB prB x.2.2.2.2).length := by
    rw [himg]; simp only [List.length_append, secB_len, magic, List.length_cons, List.length_nil]; omega
  have A0 : Ahead (imgB x) 0 (imgB x).length (magic ++ (secB 1 (hdB x) ++ (secB 2 (lsB fxB x.2.2.1) ++ (secB 3 (lsB awB x.2.2.2.1) ++ (secB 4 (lsB prB x.2.2.2.2) ++ []))))) := ⟨by rw [List.drop_zero]; exact himg, Nat.le_refl _, by omega⟩
  have ho := o79_eq (q := imgB x ++ seal4 (crcI (imgB x))) (by simp [seal4]) (by simp [seal4]; omega)
  rw [opn_seal] at ho
  generalize imgB x = b at A0 hL ho hlen ⊢
  clear himg
  generalize hc1 : hdB x = c1 at A0 hL
  generalize hc2 : lsB fxB x.2.2.1 = c2 at A0 hL
  generalize hc3 : lsB awB x.2.2.2.1 = c3 at A0 hL
  generalize hc4 : lsB prB x.2.2.2.2 = c4 at A0 hL
  have A1 : Ahead b 4 b.length (secB 1 c1 ++ (secB 2 c2 ++ (secB 3 c3 ++ (secB 4 c4 ++ [])))) := A0.next
  obtain ⟨t1, l1, R1⟩ := sec_head (t := 1) ⟨by decide, by decide⟩ A1 (by omega) (by omega)
  have A2 : Ahead b (4 + (c1.length + 5)) b.length (secB 2 c2 ++ (secB 3 c3 ++ (secB 4 c4 ++ []))) := by have := A1.next; rwa [secB_len] at this
  obtain ⟨t2, l2, R2⟩ := sec_head (t := 2) ⟨by decide, by decide⟩ A2 (by omega) (by omega)
  have A3 : Ahead b (4 + (c1.length + 5) + (c2.length + 5)) b.length (secB 3 c3 ++ (secB 4 c4 ++ [])) := by have := A2.next; rwa [secB_len] at this
  obtain ⟨t3, l3, R3⟩ := sec_head (t := 3) ⟨by decide, by decide⟩ A3 (by omega) (by omega)
  have A4 : Ahead b (4 + (c1.length + 5) + (c2.length + 5) + (c3.length + 5)) b.length (secB 4 c4 ++ []) := by have := A3.next; rwa [secB_len] at this
  obtain ⟨t4, l4, R4⟩ := sec_head (t := 4) ⟨by decide, by decide⟩ A4 (by omega) (by omega)
  generalize hp2 : 4 + (c1.length + 5) = p2 at *
  generalize hp3 : p2 + (c2.length + 5) = p3 at *
  generalize hp4 : p3 + (c3.length + 5) = p4 at *
  have hp5 : p4 + (c4.length + 5) = b.length := by omega
  refine ⟨[] ++ [(1, ((4 + 5 : Nat) : Int), ((c1.length : Nat) : Int), 1)] ++ [(2, ((p2 + 5 : Nat) : Int), ((c2.length : Nat) : Int), ((x.2.2.1.length : Nat) : Int))] ++ [(3, ((p3 + 5 : Nat) : Int), ((c3.length : Nat) : Int), ((x.2.2.2.1.length : Nat) : Int))] ++ [(4, ((p4 + 5 : Nat) : Int), ((c4.length : Nat) : Int), ((x.2.2.2.2.length : Nat) : Int))], ?_⟩
  unfold o39
  refine (bdS ho).trans ?_
  refine (cndF (show ((0 : Int) != 0) = false from rfl)).trans ?_
  refine (bdS (o80_eq (n := 4) A0 rfl (by omega))).trans ?_
  refine (cndF (show (!(magic == ([70, 68, 66, 49] : List UInt8))) = false from by decide)).trans ?_
  refine loop_4 (s1 := (((b, 2), [], rdr b p2 b.length), (((x.1.1.1, x.1.1.2, x.1.2.1), x.1.2.2, x.2.1.1, x.2.1.2), [] ++ [(1, ((4 + 5 : Nat) : Int), ((c1.length : Nat) : Int), 1)]), [], [], []))
    (s2 := (((b, 3), [], rdr b p3 b.length), (((x.1.1.1, x.1.1.2, x.1.2.1), x.1.2.2, x.2.1.1, x.2.1.2), [] ++ [(1, ((4 + 5 : Nat) : Int), ((c1.length : Nat) : Int), 1)] ++ [(2, ((p2 + 5 : Nat) : Int), ((c2.length : Nat) : Int), ((x.2.2.1.length : Nat) : Int))]), x.2.2.1, [], []))
    (s3 := (((b, 4), [], rdr b p4 b.length), (((x.1.1.1, x.1.1.2, x.1.2.1), x.1.2.2, x.2.1.1, x.2.1.2), [] ++ [(1, ((4 + 5 : Nat) : Int), ((c1.length : Nat) : Int), 1)] ++ [(2, ((p2 + 5 : Nat) : Int), ((c2.length : Nat) : Int), ((x.2.2.1.length : Nat) : Int))] ++ [(3, ((p3 + 5 : Nat) : Int), ((c3.length : Nat) : Int), ((x.2.2.2.1.length : Nat) : Int))]), x.2.2.1, x.2.2.2.1, []))
    (s4 := (((b, 5), [], rdr b b.length b.length), (((x.1.1.1, x.1.1.2, x.1.2.1), x.1.2.2, x.2.1.1, x.2.1.2), [] ++ [(1, ((4 + 5 : Nat) : Int), ((c1.length : Nat) : Int), 1)] ++ [(2, ((p2 + 5 : Nat) : Int), ((c2.length : Nat) : Int), ((x.2.2.1.length : Nat) : Int))] ++ [(3, ((p3 + 5 : Nat) : Int), ((c3.length : Nat) : Int), ((x.2.2.2.1.length : Nat) : Int))] ++ [(4, ((p4 + 5 : Nat) : Int), ((c4.length : Nat) : Int), ((x.2.2.2.2.length : Nat) : Int))]), x.2.2.1, x.2.2.2.1, x.2.2.2.2)) ?_ ?_ ?_ ?_ ?_
  · refine (bdS (cndT (dt (show (1 : Int) ≤ 4 by decide)))).trans ?_
    refine (cndT rfl).trans ?_
    refine (bdS ((bdS t1).trans (cndF (show ((1 : Int) != 1) = false from rfl)))).trans ?_
    refine (bdS l1).trans ?_
    refine (bdS (cndF rfl)).trans ?_
    refine (cndF (show decide (((c1.length : Nat) : Int) > IntKind.wrap .i64 (((b.length : Nat) : Int) - ((4 + 5 : Nat) : Int))) = false by rw [wr64 (by omega)]; exact df (by omega))).trans ?_
    have hw : IntKind.wrap .i64 (((4 + 5 : Nat) : Int) + ((c1.length : Nat) : Int)) = ((4 + 5 + c1.length : Nat) : Int) := by rw [wr64 (by omega)]; omega
    have hpos : ((4 + 5 + c1.length : Nat) : Int) = (p2 : Int) := by omega
    have R1' : Ahead b (4 + 5) (4 + 5 + c1.length) (hdB x ++ (secB 2 c2 ++ (secB 3 c3 ++ (secB 4 c4 ++ [])))) := by rw [hc1]; exact R1
    have hh := hd_len x
    rw [hc1] at hh
    dsimp only
    rw [hw]
    refine (bdS ((cndT (show ((1 : Int) == 1) = true from rfl)).trans (hd_read hH R1' (by rw [hc1]; exact Nat.le_refl _)))).trans ?_
    refine (bdS (cndF rfl)).trans ?_
    refine (cndF (show ((((4 + 5 + (x.1.1.1.length + 1) + 8 + 8 + 8 + 8 + 8 : Nat)) : Int) != ((4 + 5 + c1.length : Nat) : Int)) = false from neq_f (by omega))).trans ?_
    refine (gdT rfl).trans ?_
    dsimp only
    rw [hpos]
    rfl
  · refine (bdS (cndT (dt (show (2 : Int) ≤ 4 by decide)))).trans ?_
    refine (cndT rfl).trans ?_
    refine (bdS ((bdS t2).trans (cndF (show ((2 : Int) != 2) = false from rfl)))).trans ?_
    refine (bdS l2).trans ?_
    refine (bdS (cndF rfl)).trans ?_
    refine (cndF (show decide (((c2.length : Nat) : Int) > IntKind.wrap .i64 (((b.length : Nat) : Int) - ((p2 + 5 : Nat) : Int))) = false by rw [wr64 (by omega)]; exact df (by omega))).trans ?_
    have hw : IntKind.wrap .i64 (((p2 + 5 : Nat) : Int) + ((c2.length : Nat) : Int)) = ((p2 + 5 + c2.length : Nat) : Int) := by rw [wr64 (by omega)]; omega
    have hpos : ((p2 + 5 + c2.length : Nat) : Int) = (p3 : Int) := by omega
    have R' : Ahead b (p2 + 5) (p2 + 5 + c2.length) (lsB fxB x.2.2.1 ++ (secB 3 c3 ++ (secB 4 c4 ++ []))) := by rw [hc2]; exact R2
    have e := o85_eq hF hF2 R' (by rw [hc2]; exact Nat.le_refl _)
    rw [hc2] at e
    dsimp only
    rw [hw]
    rw [cndF (show ((2 : Int) == 1) = false from rfl), cndT (show ((2 : Int) == 2) = true from rfl)]
    refine (bdbd e).trans ?_
    refine (bdS rfl).trans ?_
    refine (bdS (cndF rfl)).trans ?_
    refine (cndF (show ((((p2 + 5 + c2.length : Nat)) : Int) != ((p2 + 5 + c2.length : Nat) : Int)) = false from neq_f rfl)).trans ?_
    refine (gdT rfl).trans ?_
    dsimp only
    rw [hpos]
    rfl
  · refine (bdS (cndT (dt (show (3 : Int) ≤ 4 by decide)))).trans ?_
    refine (cndT rfl).trans ?_
    refine (bdS ((bdS t3).trans (cndF (show ((3 : Int) != 3) = false from rfl)))).trans ?_
    refine (bdS l3).trans ?_
    refine (bdS (cndF rfl)).trans ?_
    refine (cndF (show decide (((c3.length : Nat) : Int) > IntKind.wrap .i64 (((b.length : Nat) : Int) - ((p3 + 5 : Nat) : Int))) = false by rw [wr64 (by omega)]; exact df (by omega))).trans ?_
    have hw : IntKind.wrap .i64 (((p3 + 5 : Nat) : Int) + ((c3.length : Nat) : Int)) = ((p3 + 5 + c3.length : Nat) : Int) := by rw [wr64 (by omega)]; omega
    have hpos : ((p3 + 5 + c3.length : Nat) : Int) = (p4 : Int) := by omega
    have R' : Ahead b (p3 + 5) (p3 + 5 + c3.length) (lsB awB x.2.2.2.1 ++ (secB 4 c4 ++ [])) := by rw [hc3]; exact R3
    have e := o87_eq hA hA2 R' (by rw [hc3]; exact Nat.le_refl _)
    rw [hc3] at e
    dsimp only
    rw [hw]
    rw [cndF (show ((3 : Int) == 1) = false from rfl), cndF (show ((3 : Int) == 2) = false from rfl), cndT (show ((3 : Int) == 3) = true from rfl)]
    refine (bdbd e).trans ?_
    refine (bdS rfl).trans ?_
    refine (bdS (cndF rfl)).trans ?_
    refine (cndF (show ((((p3 + 5 + c3.length : Nat)) : Int) != ((p3 + 5 + c3.length : Nat) : Int)) = false from neq_f rfl)).trans ?_
    refine (gdT rfl).trans ?_
    dsimp only
    rw [hpos]
    rfl
  · refine (bdS (cndT (dt (show (4 : Int) ≤ 4 by decide)))).trans ?_
    refine (cndT rfl).trans ?_
    refine (bdS ((bdS t4).trans (cndF (show ((4 : Int) != 4) = false from rfl)))).trans ?_
    refine (bdS l4).trans ?_
    refine (bdS (cndF rfl)).trans ?_
    refine (cndF (show decide (((c4.length : Nat) : Int) > IntKind.wrap .i64 (((b.length : Nat) : Int) - ((p4 + 5 : Nat) : Int))) = false by rw [wr64 (by omega)]; exact df (by omega))).trans ?_
    have hw : IntKind.wrap .i64 (((p4 + 5 : Nat) : Int) + ((c4.length : Nat) : Int)) = ((p4 + 5 + c4.length : Nat) : Int) := by rw [wr64 (by omega)]; omega
    have hpos : ((p4 + 5 + c4.length : Nat) : Int) = (b.length : Int) := by omega
    have R' : Ahead b (p4 + 5) (p4 + 5 + c4.length) (lsB prB x.2.2.2.2 ++ []) := by rw [hc4]; exact R4
    have e := o89_eq hP hP2 R' (by rw [hc4]; exact Nat.le_refl _)
    rw [hc4] at e
    dsimp only
    rw [hw]
    rw [cndF (show ((4 : Int) == 1) = false from rfl), cndF (show ((4 : Int) == 2) = false from rfl), cndF (show ((4 : Int) == 3) = false from rfl)]
    refine (bdbd e).trans ?_
    refine (bdS rfl).trans ?_
    refine (bdS (cndF rfl)).trans ?_
    refine (cndF (show ((((p4 + 5 + c4.length : Nat)) : Int) != ((p4 + 5 + c4.length : Nat) : Int)) = false from neq_f rfl)).trans ?_
    refine (gdT rfl).trans ?_
    dsimp only
    rw [hpos]
    rfl
  · refine (bdS (cndF (df (show ¬ (5 : Int) ≤ 4 by decide)))).trans ?_
    refine (cndF rfl).trans ?_
    refine dnE ?_
    refine (bdS (cndF rfl)).trans ?_
    exact (cndF (neq_f rfl)).trans rfl
section
variable {q : List UInt8}
theorem o24_eq {x : DB_} (hx : okDB x) (hlen : (imgB x).length ≤ 1073741824) (hc : o26v1 x = some 0) : o24 (imgB x ++ seal4 (crcI (imgB x))) = some ((((x.1.1.1, x.1.1.2, x.1.2.1), (x.1.2.2, x.2.1.1), x.2.1.2, 0), x.2.2.1), x.2.2.2.1, x.2.2.2.2) := by
  obtain ⟨s, hs⟩ := o39_eq hx hlen
  unfold o24
  refine (bdS hs).trans ?_
  refine (cndF (show ((0 : Int) != 0) = false from rfl)).trans ?_
  refine (bdS (t := 0) hc).trans ?_
  exact cndF (show ((0 : Int) != 0) = false from rfl)
end
end Go.Proofs.YtpglaekodahcoaaGreatDoor
namespace Go.Proofs.YtpglaekodahcoaaGreatDoor
set_option linter.unusedVariables false
set_option linter.unusedSimpArgs false
set_option maxRecDepth 100000
open Go.RowKit
theorem clone_ {α : Type} {l : List α} {n : Nat} (h : l.length ≤ 1073741824) (hn : n ≤ 1000) : nlO (List.isEmpty l) (some ([] : List α)) (gd (decide ((([] : List α).length + l.length) * n ≤ 140737488355328)) (some (([] : List α) ++ l))) = some l := by
  rw [nlO_eq fun e => ?_]
  · rw [gdT (dt ?_)]; · rfl
    have : l.length * n ≤ 1073741824 * 1000 := Nat.mul_le_mul h hn
    simp only [List.length_nil, Nat.zero_add]; omega
  · have : l = [] := by simpa using e
    subst this
    rw [gdT (dt (by simp))]; rfl
theorem set_self {α : Type} {l : List α} {i : Nat} (h : i < l.length) : l.set i l[i] = l := List.set_getElem_self h
theorem o75_eq {x : DB_} (h1 : x.2.2.1.length ≤ 1073741824) (h2 : x.2.2.2.1.length ≤ 1073741824) (h3 : x.2.2.2.2.length ≤ 1073741824)
    (hA : ∀ a ∈ x.2.2.2.1, a.2.length ≤ 1073741824) (hP : ∀ a ∈ x.2.2.2.2, a.2.2.2.length ≤ 1073741824 ∧ ∀ y ∈ a.2.2.2, y.2.2.length ≤ 1073741824) :
    o75 x = some ((((x.1.1.1, x.1.1.2, x.1.2.1), x.1.2.2, x.2.1.1, x.2.1.2), x.2.2.1), x.2.2.2.1, x.2.2.2.2) := by
  unfold o75
  refine (bdS (t := x.2.2.1) (clone_ h1 (by decide))).trans ?_
  refine (bdS (t := x.2.2.2.1) (clone_ h2 (by decide))).trans ?_
  refine loop_c (n := x.2.2.2.1.length) (fun i => ((((x.2.2.2.1.length : Nat) : Int), (i : Int), (x.1.1.1, x.1.1.2, x.1.2.1), (x.1.2.2, x.2.1.1), x.2.1.2, x.2.2.2.2), ([] : List UInt8), x.2.2.1, x.2.2.2.1)) rfl (fun i hi => ?_) ?_ (by omega)
  · dsimp only
    rw [cndT (dt (by omega)), gdT (dt (by omega)), Int.toNat_natCast, getD_ix hi]
    refine (bdS (t := (x.2.2.2.1[i]).2) (clone_ (hA _ (List.getElem_mem hi)) (by decide))).trans ?_
    rw [gdT (dt (by omega)), wr64 (by omega)]
    have e : (List.set x.2.2.2.1 i ((x.2.2.2.1[i]).1, (x.2.2.2.1[i]).2)) = x.2.2.2.1 := set_self hi
    rw [e]
    rfl
  dsimp only
  rw [cndF (df (by omega))]
  refine dnE ?_
  refine (bdS (t := x.2.2.2.2) (clone_ h3 (by decide))).trans ?_
  refine loop_c (n := x.2.2.2.2.length) (fun i => ((((x.2.2.2.2.length : Nat) : Int), (i : Int), (x.1.1.1, x.1.1.2, x.1.2.1), x.1.2.2, x.2.1.1, x.2.1.2), (([] : List UInt8), x.2.2.1), x.2.2.2.1, x.2.2.2.2)) rfl (fun i hi => ?_) ?_ (by omega)
  · dsimp only
    have hx := hP _ (List.getElem_mem hi)
    rw [cndT (dt (by omega)), gdT (dt (by omega)), Int.toNat_natCast, getD_ix hi]
    refine (bdS (t := (x.2.2.2.2[i]).2.2.2) (clone_ hx.1 (by decide))).trans ?_
    refine loop_c (n := (x.2.2.2.2[i]).2.2.2.length) (fun j => ((((i : Int), ((x.2.2.2.2.length : Nat) : Int)), (i : Int), (((x.2.2.2.2[i]).2.2.2.length : Nat) : Int), (j : Int)), (((x.1.1.1, x.1.1.2, x.1.2.1), x.1.2.2, x.2.1.1, x.2.1.2), ([] : List UInt8), (x.2.2.2.2[i]).2.2.2), x.2.2.1, x.2.2.2.1, x.2.2.2.2)) rfl (fun j hj => ?_) ?_ (by omega)
    · dsimp only
      rw [cndT (dt (by omega)), gdT (dt (by omega)), Int.toNat_natCast, getD_ix hj]
      refine (bdS (t := ((x.2.2.2.2[i]).2.2.2[j]).2.2) (clone_ (hx.2 _ (List.getElem_mem hj)) (by decide))).trans ?_
      rw [gdT (dt (by omega)), wr64 (by omega)]
      have e : (List.set (x.2.2.2.2[i]).2.2.2 j (((x.2.2.2.2[i]).2.2.2[j]).1, ((x.2.2.2.2[i]).2.2.2[j]).2.1, ((x.2.2.2.2[i]).2.2.2[j]).2.2)) = (x.2.2.2.2[i]).2.2.2 := set_self hj
      rw [e]
      rfl
    · dsimp only
      rw [cndF (df (by omega))]
      refine dnE ?_
      rw [gdT (dt (by omega)), wr64 (by omega), Int.toNat_natCast, getD_ix hi]
      have e : (List.set x.2.2.2.2 i ((x.2.2.2.2[i]).1, (x.2.2.2.2[i]).2.1, (x.2.2.2.2[i]).2.2.1, (x.2.2.2.2[i]).2.2.2)) = x.2.2.2.2 := set_self hi
      rw [e]
      rfl
  dsimp only
  rw [cndF (df (by omega))]
  rfl
theorem minI_eq (n k : Nat) : minI ((n : Nat) : Int) ((k : Nat) : Int) = ((min n k : Nat) : Int) := by
  unfold minI
  split <;> omega
theorem take_min {α : Type} (l : List α) (k : Nat) : l.take (min l.length k) = l.take k := by
  rw [Nat.min_comm, ← List.take_take, List.take_length]
def fewA (a : Air_) : Air_ := (a.1, a.2.take 8)
def fewX (x : Part_) : Part_ := (x.1, x.2.1, x.2.2.take 6)
def fewP (p : Proc_) : Proc_ := (p.1, p.2.1, p.2.2.1, (p.2.2.2.take 5).map fewX)
def fewD (x : DB_) : DB_ := (x.1, x.2.1, x.2.2.1.take 24, (x.2.2.2.1.take 6).map fewA, (x.2.2.2.2.take 4).map fewP)
theorem cnd_end {α β : Type} {c : Bool} (b : Bool) (t : Bool → α) {k : α → Option β} {r : Option β} (hcb : (c && b) = false) (h : k (t false) = r) : bd (cnd c (some (t b)) (some (t false))) k = r := by
  cases c with
  | false => exact h
  | true => cases b with
    | false => exact h
    | true => cases hcb
theorem ends {n m : Nat} {k : Int} (hk : k = (m : Int)) : (decide (((min n m : Nat) : Int) < ((n : Nat) : Int)) && decide (((min n m : Nat) : Int) < k)) = false := by
  subst hk
  by_cases h : n ≤ m
  · rw [df (by omega)]; rfl
  · rw [df (show ¬ ((min n m : Nat) : Int) < (m : Int) by omega), Bool.and_false]
theorem minI24 (n : Nat) : minI ((n : Nat) : Int) 24 = ((min n 24 : Nat) : Int) := minI_eq n 24
theorem minI8 (n : Nat) : minI ((n : Nat) : Int) 8 = ((min n 8 : Nat) : Int) := minI_eq n 8
theorem minI6 (n : Nat) : minI ((n : Nat) : Int) 6 = ((min n 6 : Nat) : Int) := minI_eq n 6
theorem map_succ {α β : Type} (f : α → β) {l : List α} {i : Nat} (h : i < l.length) : (l.take (i + 1)).map f = (l.take i).map f ++ [f l[i]] := by
  rw [List.take_succ_eq_append_getElem h, List.map_append]; rfl
theorem o8_eq (x : DB_) (h1 : x.2.2.1.length ≤ 140737488355328) (h2 : x.2.2.2.1.length ≤ 140737488355328) (h3 : x.2.2.2.2.length ≤ 140737488355328) (hA : ∀ a ∈ x.2.2.2.1, a.2.length ≤ 140737488355328)
    (hP : ∀ a ∈ x.2.2.2.2, a.2.2.2.length ≤ 140737488355328 ∧ ∀ y ∈ a.2.2.2, y.2.2.length ≤ 140737488355328) :
    o8 x = some ((((x.1.1.1, x.1.1.2, x.1.2.1), x.1.2.2, x.2.1.1, x.2.1.2), (fewD x).2.2.1), (fewD x).2.2.2.1, (fewD x).2.2.2.2) := by
  unfold o8
  rw [minI24, Int.toNat_natCast, take_min, gdT (dt (by omega)), gdT (dt (by rw [List.length_take]; omega))]
  refine loop_c (n := min x.2.2.2.1.length 6) (fun i => (((i : Int), x, ([] : List UInt8)), ((x.1.1.1, x.1.1.2, x.1.2.1), x.1.2.2, x.2.1), x.2.2.1.take 24, (x.2.2.2.1.take i).map fewA)) rfl (fun i hi => ?_) ?_ (by omega)
  · have hi' : i < x.2.2.2.1.length := by omega
    have ha := hA _ (List.getElem_mem hi')
    dsimp only
    rw [cndT (dt (by omega)), bdI]
    dsimp only
    rw [cndT (dt (by omega)), gdT (dt (by omega)), bdI, Int.toNat_natCast, getD_ix hi', minI8, Int.toNat_natCast, take_min, gdT (dt (by omega)), gdT (dt (by rw [List.length_take, List.length_nil]; omega)), gdT (dt (by simp only [List.length_map, List.length_take, List.length_cons, List.length_nil]; omega)), wr64 (by omega), map_succ fewA hi']
    rfl
  dsimp only
  refine cnd_end (decide (((min x.2.2.2.1.length 6 : Nat) : Int) < 6)) (fun z => ((((min x.2.2.2.1.length 6 : Nat) : Int), z, x), (([] : List UInt8), ((x.1.1.1, x.1.1.2, x.1.2.1), x.1.2.2, x.2.1)), x.2.2.1.take 24, (x.2.2.2.1.take (min x.2.2.2.1.length 6)).map fewA)) (ends rfl) ?_
  dsimp only
  refine (cndF rfl).trans ?_
  refine dnE ?_
  rw [take_min]
  refine loop_c (n := min x.2.2.2.2.length 4) (fun i => (((i : Int), x, ([] : List UInt8)), (((x.1.1.1, x.1.1.2, x.1.2.1), x.1.2.2, x.2.1), x.2.2.1.take 24), (x.2.2.2.1.take 6).map fewA, (x.2.2.2.2.take i).map fewP)) rfl (fun i hi => ?_) ?_ (by omega)
  · have hi' : i < x.2.2.2.2.length := by omega
    have hp := hP _ (List.getElem_mem hi')
    dsimp only
    rw [cndT (dt (by omega)), bdI]
    dsimp only
    rw [cndT (dt (by omega)), gdT (dt (by omega)), bdI, Int.toNat_natCast, getD_ix hi']
    generalize hg : x.2.2.2.2[i] = g at hp ⊢
    refine loop_c (n := min g.2.2.2.length 5) (fun j => ((((i : Int), (j : Int)), x, ([] : List UInt8), ((x.1.1.1, x.1.1.2, x.1.2.1), x.1.2.2, x.2.1)), (((g.1, g.2.1), g.2.2), (g.2.2.2.take j).map fewX), x.2.2.1.take 24, (x.2.2.2.1.take 6).map fewA, (x.2.2.2.2.take i).map fewP)) rfl (fun j hj => ?_) ?_ (by omega)
    · have hj' : j < g.2.2.2.length := by omega
      have hq := hp.2 _ (List.getElem_mem hj')
      dsimp only
      rw [cndT (dt (by omega)), bdI]
      dsimp only
      rw [cndT (dt (by omega)), gdT (dt (by omega)), bdI, Int.toNat_natCast, getD_ix hj', minI6, Int.toNat_natCast, take_min, gdT (dt (by omega)), gdT (dt (by rw [List.length_take, List.length_nil]; omega)), gdT (dt (by simp only [List.length_map, List.length_take, List.length_cons, List.length_nil]; omega)), wr64 (by omega), map_succ fewX hj']
      rfl
    · dsimp only
      refine cnd_end (decide (((min g.2.2.2.length 5 : Nat) : Int) < 5)) (fun z => ((((i : Int), ((min g.2.2.2.length 5 : Nat) : Int)), z, x, ([] : List UInt8)), (((x.1.1.1, x.1.1.2, x.1.2.1), x.1.2.2, x.2.1), ((g.1, g.2.1), g.2.2), (g.2.2.2.take (min g.2.2.2.length 5)).map fewX), x.2.2.1.take 24, (x.2.2.2.1.take 6).map fewA, (x.2.2.2.2.take i).map fewP)) (ends rfl) ?_
      dsimp only
      refine (cndF rfl).trans ?_
      refine dnE ?_
      rw [take_min, gdT (dt (by simp only [List.length_map, List.length_take, List.length_cons, List.length_nil]; omega)), wr64 (by omega), map_succ fewP hi', hg]
      rfl
  dsimp only
  refine cnd_end (decide (((min x.2.2.2.2.length 4 : Nat) : Int) < 4)) (fun z => (((((min x.2.2.2.2.length 4 : Nat) : Int), z), x, ([] : List UInt8)), (((x.1.1.1, x.1.1.2, x.1.2.1), x.1.2.2, x.2.1), x.2.2.1.take 24), (x.2.2.2.1.take 6).map fewA, (x.2.2.2.2.take (min x.2.2.2.2.length 4)).map fewP)) (ends rfl) ?_
  dsimp only
  refine (cndF rfl).trans ?_
  rw [take_min]
  rfl
theorem o7v1_err {x : DB_} {e : Int} (hc : o26v1 x = some e) (he : e ≠ 0) : o7v1 x = some (e, []) := by
  unfold o7v1
  rw [bdS hc, cndT (neq_t he)]
abbrev stoN : (List UInt8 × Int × Int) × (Int × Int) × Int × Bool := (([], 0, 0), (0, 0), 0, false)
abbrev stoD (x : DB_) : (List UInt8 × Int × Int) × (Int × Int) × Int × Bool := ((x.1.1.1, x.1.1.2, x.1.2.1), (x.1.2.2, x.2.1.1), x.2.1.2, true)
theorem o10_eq {x : DB_} (hx : okDB x) (hlen : (imgB x).length ≤ 1073741824) (hc : o26v1 x = some 0) :
    o10 (imgB x ++ seal4 (crcI (imgB x))) (stoN, stoN) = some ((0, stoN, stoD x), x.2.2.1, x.2.2.2.1, x.2.2.2.2) := by
  unfold o10
  refine (bdS (o24_eq hx hlen hc)).trans ?_
  refine (cndF (show ((0 : Int) != 0) = false from rfl)).trans ?_
  refine (bdS (cndF rfl)).trans ?_
  exact cndF rfl
theorem awake_ : o6 = some true := by kernel_rfl
end Go.Proofs.YtpglaekodahcoaaGreatDoor
namespace Go.Proofs.YtpglaekodahcoaaGreatDoor
set_option linter.unusedVariables false
set_option linter.unusedSimpArgs false
set_option maxRecDepth 100000
open Go.RowKit
def Tot {α : Type} (Q : α → Prop) (x : Option α) : Prop := ∃ r, x = some r ∧ Q r
def CP {α β : Type} (P : α → Prop) (Q : β → Prop) : Ctl α β → Prop
  | .go t => P t
  | .done r => Q r
section
variable {α β σ : Type} {P : α → Prop} {Q : β → Prop}
theorem tS {r : β} (h : Q r) : Tot Q (some r) := ⟨r, rfl, h⟩
theorem tW {x : Option β} {R : β → Prop} (h : Tot R x) (hp : ∀ r, R r → Q r) : Tot Q x := by
  obtain ⟨r, e, k⟩ := h
  exact ⟨r, e, hp r k⟩
theorem tB {x : Option α} {k : α → Option β} (h : Tot P x) (k1 : ∀ t, P t → Tot Q (k t)) : Tot Q (bd x k) := by
  obtain ⟨t, rfl, ht⟩ := h
  exact k1 t ht
theorem tBT {x : Option α} {k : α → Option β} (h : Tot (fun _ => True) x) (k1 : ∀ t, Tot Q (k t)) : Tot Q (bd x k) := tB h fun t _ => k1 t
theorem tI {t : α} {k : α → Option β} (h : Tot Q (k t)) : Tot Q (bd (some t) k) := h
theorem tC {c : Bool} {x y : Option β} (h1 : c = true → Tot Q x) (h2 : c = false → Tot Q y) : Tot Q (cnd c x y) := by
  cases c with
  | true => exact h1 rfl
  | false => exact h2 rfl
theorem tG {c : Bool} {x : Option β} (h : c = true) (k : Tot Q x) : Tot Q (gd c x) := by subst h; exact k
theorem tGo {t : α} (h : P t) : Tot (CP P Q) (some (.go t)) := ⟨_, rfl, h⟩
theorem tDn {x : Option β} (h : Tot Q x) : Tot (CP P Q) (dnO x) := by
  obtain ⟨r, rfl, hr⟩ := h
  exact ⟨_, rfl, hr⟩
theorem tJ {x : Option (Ctl α β)} {k : α → Option β} (h : Tot (CP P Q) x) (k1 : ∀ t, P t → Tot Q (k t)) : Tot Q (jd x k) := by
  obtain ⟨c, rfl, hc⟩ := h
  cases c with
  | go t => exact k1 t hc
  | done r => exact ⟨r, rfl, hc⟩
theorem tL {B : σ → Option (Ctl σ β)} (I : σ → Prop) (m : σ → Nat) (h : ∀ s, I s → Tot (CP (fun s' => I s' ∧ m s' < m s) Q) (B s)) {s0 : σ} (h0 : I s0) (hm : m s0 < 18446744073709551615) : Tot Q (loopO fuelN B s0) := by
  refine loop_meas I m (fun s hs => ?_) h0 hm
  obtain ⟨c, e, hc⟩ := h s hs
  cases c with
  | go t => exact .inl ⟨t, e, hc.1, hc.2⟩
  | done r => exact .inr ⟨r, e, hc⟩
theorem tM {x : Option (α ⊕ β)} {γ : Type} {R : γ → Prop} {s : α ⊕ β} {f : α → Option γ} {g : β → Option γ} (h1 : ∀ a, s = .inl a → Tot R (f a)) (h2 : ∀ b, s = .inr b → Tot R (g b)) : Tot R (sm s f g) := by
  cases s with
  | inl a => exact h1 a rfl
  | inr b => exact h2 b rfl
end
theorem dT {p : Prop} [Decidable p] (h : decide p = true) : p := of_decide_eq_true h
theorem dF {p : Prop} [Decidable p] (h : decide p = false) : ¬ p := of_decide_eq_false h
theorem eT {a b : Int} (h : (a == b) = true) : a = b := by simpa using h
theorem eF {a b : Int} (h : (a == b) = false) : a ≠ b := by simpa using h
theorem nT {a b : Int} (h : (a != b) = true) : a ≠ b := by simpa using h
theorem nF {a b : Int} (h : (a != b) = false) : a = b := by simpa using h
theorem notF {a : Bool} (h : (!a) = false) : a = true := by simpa using h
theorem sT {a b : List UInt8} (h : (a == b) = true) : a = b := by simpa using h
end Go.Proofs.YtpglaekodahcoaaGreatDoor
namespace Go.Proofs.YtpglaekodahcoaaGreatDoor
set_option linter.unusedVariables false
set_option linter.unusedSimpArgs false
set_option maxRecDepth 100000
open Go.RowKit
theorem ixB_bd (c : UInt8) : ∀ (s : List UInt8) (k : Int), 0 ≤ k → ixB c s k = -1 ∨ (k ≤ ixB c s k ∧ ixB c s k < k + s.length)
  | [], k, _ => .inl rfl
  | b :: l, k, hk => by
    unfold ixB
    have hl : ((b :: l).length : Int) = (l.length : Int) + 1 := by simp
    cases e : (b == c) with
    | true => exact .inr ⟨Int.le_refl _, by rw [cond_true]; omega⟩
    | false =>
      rw [cond_false]
      rcases ixB_bd c l (k + 1) (by omega) with h | ⟨h1, h2⟩
      · exact .inl h
      · exact .inr ⟨by omega, by omega⟩
theorem o253_t (s : List UInt8) (c : UInt8) : Tot (fun r : Int => r = -1 ∨ (0 ≤ r ∧ r < s.length)) (o253 s [c]) := by
  unfold o253
  refine tB (P := fun v => v.1.1 = s ∧ v.1.2 = [c] ∧ v.2.1 = 1 ∧ v.2.2 = ([c] == s) ∨ v.2.2 = true ∧ 0 < s.length ∧ v.1.1 = s) ?_ fun v hv => ?_
  · exact tC (fun h => by cases h) fun h => tS (.inl ⟨rfl, rfl, rfl, rfl⟩)
  · refine tC (fun h => tS ?_) fun h => ?_
    · rcases hv with ⟨_, _, _, h4⟩ | ⟨_, h4, _⟩
      · rw [h] at h4
        have : [c] = s := by simpa using h4.symm
        subst this
        exact .inr ⟨by decide, by simp⟩
      · exact .inr ⟨by decide, by omega⟩
    · rcases hv with ⟨h1, h2, h3, h4⟩ | ⟨h4, _⟩
      · rw [h3]
        refine tC (fun _ => ?_) fun h => by cases h
        rw [h2]
        refine tG (dt (by simp)) ?_
        refine tI (tS ?_)
        rw [h1]
        have := ixB_bd (u8 (((List.getD [c] (0 : Int).toNat 0).toNat : Nat) : Int)) s 0 (Int.le_refl 0)
        simpa using this
      · rw [h] at h4; cases h4
theorem o206_t (s : List UInt8) (c : UInt8) (hs : s.length ≤ 140737488355328) : Tot (fun v => v.1.length ≤ s.length ∧ v.2.1.length ≤ s.length ∧ (v.2.2 = true → s.length = v.1.length + 1 + v.2.1.length) ∧ (v.2.2 = false → v.1 = s)) (o206 s [c]) := by
  unfold o206
  refine tB (o253_t s c) fun r hr => ?_
  refine tC (fun h => ?_) fun h => tS ⟨Nat.le_refl _, Nat.zero_le _, fun h => (by cases h), fun _ => rfl⟩
  have h := dT h
  have hr : 0 ≤ r ∧ r < s.length := by omega
  have hw : IntKind.wrap .i64 (r + ((([c] : List UInt8).length : Nat) : Int)) = r + 1 := by
    rw [show ((([c] : List UInt8).length : Nat) : Int) = 1 from rfl]
    exact wr64 (by omega)
  rw [hw]
  refine tG (dt (by omega)) (tG (dt (by omega)) (tS ?_))
  simp only [List.length_take, List.length_drop]
  refine ⟨by omega, by omega, fun _ => by omega, fun h => by cases h⟩
theorem o153_t (s : List UInt8) (c : UInt8) (hs : s.length ≤ 140737488355328) : Tot (fun v => v.1.length ≤ s.length ∧ v.2.1.length ≤ s.length ∧ (v.2.2 = true → s.length = v.1.length + 1 + v.2.1.length) ∧ (v.2.2 = false → v.1 = s)) (o153 s [c]) := by
  unfold o153
  exact tB (o206_t s c hs) fun v hv => tS hv
theorem o130_t (s : List UInt8) (m : Int) (hs : s.length ≤ 140737488355328) : Tot (fun r => r = true → 0 < s.length ∧ (s.length : Int) ≤ m) (o130 s m) := by
  unfold o130
  refine tB (P := fun v => v.1 = s ∧ (v.2 = false → 0 < s.length ∧ (s.length : Int) ≤ m)) ?_ fun v hv => ?_
  · refine tC (fun _ => tS ⟨rfl, fun h => by cases h⟩) fun h1 => ?_
    have h1 := eF h1
    refine tC (fun _ => tS ⟨rfl, fun h => by cases h⟩) fun h2 => ?_
    have h2 := dF h2
    refine tG (dt (by omega)) (tC (fun _ => tS ⟨rfl, fun h => by cases h⟩) fun _ => tG (dt (by omega)) (tS ⟨rfl, fun _ => by omega⟩))
  · refine tC (fun _ => tS fun h => by cases h) fun h => ?_
    obtain ⟨h1, h2⟩ := hv
    have h2 := h2 h
    rw [h1]
    refine tL (fun t : List UInt8 × Int × Int => t.1 = s ∧ t.2.1 = s.length ∧ 0 ≤ t.2.2 ∧ t.2.2 ≤ s.length) (fun t => ((s.length : Int) - t.2.2).toNat) ?_ ⟨rfl, rfl, Int.le_refl _, by simp⟩ (by simp; omega)
    rintro ⟨t1, t2, t3⟩ ⟨e1, e2, h3, h4⟩
    dsimp only at e1 e2 h3 h4 ⊢
    subst e1; subst e2
    refine tC (fun h => ?_) fun h => tDn (tS fun _ => h2)
    have h := dT h
    refine tB (P := fun v => v.1.1 = t1 ∧ v.1.2 = (t1.length : Int) ∧ v.2.1 = t3) ?_ fun v hv => ?_
    · refine tG (dt (by omega)) ?_
      refine tC (fun _ => ?_) fun _ => ?_
      · exact tG (dt (by omega)) (tC (fun _ => tS ⟨rfl, rfl, rfl⟩) fun _ => tG (dt (by omega)) (tS ⟨rfl, rfl, rfl⟩))
      · exact tG (dt (by omega)) (tC (fun _ => tG (dt (by omega)) (tC (fun _ => tS ⟨rfl, rfl, rfl⟩) fun _ => tG (dt (by omega)) (tS ⟨rfl, rfl, rfl⟩))) fun _ => tS ⟨rfl, rfl, rfl⟩)
    · obtain ⟨e1, e2, e3⟩ := hv
      refine tC (fun _ => tDn (tS fun h => by cases h)) fun _ => tGo ?_
      rw [e1, e2, e3, wr64 (by omega)]
      dsimp only
      exact ⟨⟨rfl, rfl, by omega, by omega⟩, by omega⟩
theorem o182_t (a : Int) : Tot (fun r => r = true → 1 ≤ a ∧ a ≤ 17) (o182 a) := by
  unfold o182
  refine tB (P := fun r => r = true → 1 ≤ a ∧ a ≤ 17) ?_ fun r hr => tS hr
  exact tC (fun h => tS fun h2 => by have h := dT h; have h2 := dT h2; omega) fun _ => tS fun h => by cases h
theorem o192_t (s : List UInt8) : Tot (fun r => r = true → s.length = 2) (o192 s) := by
  unfold o192
  refine tC (fun _ => tS fun h => by cases h) fun h => ?_
  have hl := nF h
  refine tL (fun t : List UInt8 × Int × Int => t.1 = s ∧ t.2.1 = s.length ∧ 0 ≤ t.2.2 ∧ t.2.2 ≤ s.length) (fun t => ((s.length : Int) - t.2.2).toNat) ?_ ⟨rfl, rfl, Int.le_refl _, by simp⟩ (by simp; omega)
  rintro ⟨t1, t2, t3⟩ ⟨e1, e2, h3, h4⟩
  dsimp only at e1 e2 h3 h4 ⊢
  subst e1; subst e2
  refine tC (fun h => ?_) fun h => tDn (tS fun _ => by omega)
  have h := dT h
  refine tB (P := fun v => v.1.1 = t1 ∧ v.1.2 = (t1.length : Int) ∧ v.2.1 = t3) ?_ fun v hv => ?_
  · refine tG (dt (by omega)) ?_
    refine tC (fun _ => ?_) fun _ => ?_
    · exact tG (dt (by omega)) (tC (fun _ => tS ⟨rfl, rfl, rfl⟩) fun _ => tG (dt (by omega)) (tS ⟨rfl, rfl, rfl⟩))
    · exact tG (dt (by omega)) (tC (fun _ => tG (dt (by omega)) (tC (fun _ => tS ⟨rfl, rfl, rfl⟩) fun _ => tG (dt (by omega)) (tS ⟨rfl, rfl, rfl⟩))) fun _ => tS ⟨rfl, rfl, rfl⟩)
  · obtain ⟨e1, e2, e3⟩ := hv
    refine tC (fun _ => tDn (tS fun h => by cases h)) fun _ => tGo ?_
    rw [e1, e2, e3, wr64 (by omega)]
    dsimp only
    exact ⟨⟨rfl, rfl, by omega, by omega⟩, by omega⟩
theorem o193_t (s : List UInt8) (hs : s.length ≤ 140737488355328) : Tot (fun v => v.2.2 = 0 → s.length ≤ 13) (o193 s) := by
  unfold o193
  refine tB (o153_t s 47 hs) fun v hv => ?_
  refine tC (fun _ => tS fun h => by cases h) fun h => ?_
  have h := hv.2.2.1 (notF h)
  refine tB (P := fun w => w.2.2 = false → s.length ≤ 13) ?_ fun w hw => tC (fun _ => tS fun h => by cases h) fun h => tS fun _ => hw h
  refine tB (o130_t v.1 6 (by omega)) fun r hr => ?_
  refine tC (fun _ => tS fun h => by cases h) fun h1 => ?_
  have hr := hr (notF h1)
  refine tB (o130_t v.2.1 6 (by omega)) fun r2 hr2 => ?_
  refine tC (fun _ => ?_) fun h2 => tS fun _ => by have := hr2 (notF h2); omega
  exact tB (o192_t v.2.1) fun r3 hr3 => tS fun h3 => by have := hr3 (notF h3); omega
theorem o183_t (s : List UInt8) (b : Bool) (hs : s.length ≤ 140737488355328) : Tot (fun r => r = 0 → s.length ≤ 13) (o183 s b) := by
  unfold o183
  refine tC (fun _ => ?_) fun _ => ?_
  · exact tB (o193_t s hs) fun v hv => tC (fun _ => tS fun h => by cases h) fun h => tS fun _ => hv (nF h)
  · exact tC (fun _ => tS fun h => by cases h) fun h => tS fun _ => by rw [sT (notF h)]; decide
theorem o184_t (a : Int) (b : Bool) (c d : Int) : Tot (fun _ => True) (o184 a b c d) := by
  unfold o184
  refine tB (P := fun _ => True) ?_ fun v _ => tC (fun _ => tS trivial) fun _ => tB (P := fun _ => True) (tC (fun _ => tS trivial) fun _ => tS trivial) fun _ _ => tC (fun _ => tS trivial) fun _ => tS trivial
  exact tC (fun _ => tC (fun _ => tS trivial) fun _ => tS trivial) fun _ => tS trivial
theorem tT {α : Type} {Q : α → Prop} {x : Option α} (h : Tot Q x) : Tot (fun _ => True) x := tW h fun _ _ => trivial
theorem o126_t (a : Ty22ecb9) (h1 : a.1.1.2.1.length ≤ 140737488355328) (h2 : a.1.1.2.2.length ≤ 140737488355328) : Tot (fun r => r = 0 → a.1.1.2.1.length ≤ 13 ∧ a.1.1.2.2.length ≤ 13) (o126 a) := by
  unfold o126
  refine tB (o182_t _) fun v hv => ?_
  refine tC (fun _ => tS fun h => by cases h) fun h => ?_
  have hv := hv (notF h)
  refine tG (dt (by omega)) ?_
  refine tB (o183_t _ _ h1) fun v2 hv2 => ?_
  refine tC (fun h => tS fun h2 => absurd h2 (nT h)) fun h => ?_
  have hv2 := hv2 (nF h)
  refine tB (o183_t _ _ h2) fun v3 hv3 => ?_
  refine tC (fun h => tS fun h2 => absurd h2 (nT h)) fun h => ?_
  have hv3 := hv3 (nF h)
  refine tW (R := fun _ => True) ?_ fun _ _ _ => ⟨hv2, hv3⟩
  refine tJ (P := fun _ => True) ?_ fun v5 _ => ?_
  · repeat' (first | exact tS trivial | exact tGo trivial | exact tDn (tS trivial) | refine tC (fun _ => ?_) (fun _ => ?_) | refine tBT ?_ (fun _ => ?_))
  · repeat' (first | exact tS trivial | exact o184_t _ _ _ _ | refine tC (fun _ => ?_) (fun _ => ?_) | refine tBT ?_ (fun _ => ?_))
theorem o332_t (a b : Int) : Tot (fun _ => True) (o332 a b) := ⟨_, rfl, trivial⟩
theorem o333_t (a b : Int) (h : b ≠ 0) : Tot (fun _ => True) (o333 a b) := by
  unfold o333
  exact tG (dt h) (tS trivial)
theorem o328_t (a : Int) : Tot (fun _ => True) (o328 a) := by
  unfold o328
  refine tBT (o332_t _ _) fun v1 => ?_
  refine tL (fun t : (Int × Int) × Int × Int => 0 ≤ t.2.2 ∧ t.2.2 ≤ 5) (fun t => (5 - t.2.2).toNat) ?_ ⟨by dsimp only; omega, by dsimp only; omega⟩ (by dsimp only; omega)
  rintro ⟨⟨t1, t2⟩, t3, t4⟩ ⟨h1, h2⟩
  dsimp only at h1 h2 ⊢
  refine tC (fun h => ?_) fun h => tDn (tBT (o332_t _ _) fun _ => tS trivial)
  have h := dT h
  have h5 : t4 = 0 ∨ t4 = 1 ∨ t4 = 2 ∨ t4 = 3 ∨ t4 = 4 := by omega
  refine tB (P := fun v : (Int × Int × Int) × Int × Int × Int => v.2.1 = t4 ∧ v.2.2.1 ≠ 0 ∧ v.2.2.2 = t4) ?_ fun v hv => ?_
  · rcases h5 with rfl | rfl | rfl | rfl | rfl <;> exact ⟨_, rfl, rfl, by dsimp only; omega, rfl⟩
  · refine tB (P := fun w : (Int × Int) × Int × Int × Int => w.2.1 ≠ 0 ∧ w.2.2.2 = t4) ?_ fun w hw => ?_
    · exact tC (fun _ => tBT (o332_t _ _) fun _ => tS ⟨hv.2.1, hv.2.2⟩) fun _ => tS ⟨hv.2.1, hv.2.2⟩
    · refine tBT (o333_t _ _ hw.1) fun _ => tGo ?_
      rw [hw.2, wr64 (x := t4 + 1) (by omega)]
      exact ⟨⟨by dsimp only; omega, by dsimp only; omega⟩, by dsimp only; omega⟩
theorem o329_t (a : Int) : Tot (fun _ => True) (o329 a) := by
  unfold o329
  refine tBT (o332_t _ _) fun v1 => ?_
  refine tL (fun t : Int × Int × Int => 0 ≤ t.2.2 ∧ t.2.2 ≤ 5) (fun t => (5 - t.2.2).toNat) ?_ ⟨by dsimp only; omega, by dsimp only; omega⟩ (by dsimp only; omega)
  rintro ⟨t1, t3, t4⟩ ⟨h1, h2⟩
  dsimp only at h1 h2 ⊢
  refine tC (fun h => ?_) fun h => tDn (tS trivial)
  have h := dT h
  have h5 : t4 = 0 ∨ t4 = 1 ∨ t4 = 2 ∨ t4 = 3 ∨ t4 = 4 := by omega
  refine tB (P := fun v : (Int × Int) × Int × Int × Int => v.2.1 = t4 ∧ v.2.2.1 ≠ 0 ∧ v.2.2.2 = t4) ?_ fun v hv => ?_
  · rcases h5 with rfl | rfl | rfl | rfl | rfl <;> exact ⟨_, rfl, rfl, by dsimp only; omega, rfl⟩
  · refine tB (P := fun w : (Int × Int) × Int × Int => w.1.2 ≠ 0 ∧ w.2.2 = t4) ?_ fun w hw => ?_
    · exact tC (fun _ => tBT (o332_t _ _) fun _ => tS ⟨hv.2.1, hv.2.2⟩) fun _ => tS ⟨hv.2.1, hv.2.2⟩
    · refine tBT (o333_t _ _ hw.1) fun _ => tGo ?_
      rw [hw.2, wr64 (x := t4 + 1) (by omega)]
      exact ⟨⟨by dsimp only; omega, by dsimp only; omega⟩, by dsimp only; omega⟩
theorem o186_t (a : Int) : Tot (fun _ => True) (o186 a) := by
  unfold o186
  exact tC (fun _ => tS trivial) fun _ => tS trivial
theorem o320_t (a : Int) : Tot (fun _ => True) (o320 a) := by
  unfold o320
  exact tC (fun _ => tBT (o328_t _) fun _ => tS trivial) fun _ => tBT (o329_t _) fun _ => tS trivial
theorem o304_t (a : Int) : Tot (fun _ => True) (o304 a) := by
  unfold o304
  repeat' (first | exact tS trivial | exact o186_t _ | exact o320_t _ | refine tC (fun _ => ?_) (fun _ => ?_) | refine tBT ?_ (fun _ => ?_))
theorem o321_t (a b : Int) : Tot (fun _ => True) (o321 a b) := by
  unfold o321
  repeat' (first | exact tS trivial | exact o186_t _ | refine tBT ?_ (fun _ => ?_))
theorem o305_t (a : Int) : Tot (fun _ => True) (o305 a) := by
  unfold o305
  repeat' (first | exact tS trivial | exact o321_t _ _ | exact o304_t _ | refine tBT ?_ (fun _ => ?_))
def sm33 (x : Int) : Prop := -8589934592 ≤ x ∧ x ≤ 8589934592
theorem sm33_0 : sm33 0 := ⟨by decide, by decide⟩
theorem shr30 {x : Int} (h : -9223372036854775808 ≤ x ∧ x ≤ 9223372036854775807) : sm33 (shrK .i64 x 30) := by
  show sm33 (x.fdiv (2 ^ (min (30 : Int).toNat IntKind.i64.bits)))
  rw [show (2 ^ (min (30 : Int).toNat IntKind.i64.bits) : Int) = 1073741824 from rfl, Int.fdiv_eq_ediv_of_nonneg _ (by decide)]
  constructor <;> omega
theorem wr_in (x : Int) : -9223372036854775808 ≤ IntKind.wrap .i64 x ∧ IntKind.wrap .i64 x ≤ 9223372036854775807 := by
  rw [IntKind.wrap_i64]
  constructor <;> omega
theorem o306_t (a : Int) : Tot sm33 (o306 a) := by
  unfold o306
  exact tS (shr30 (wr_in _))
theorem o279_t (a : Int × Int) : Tot (fun _ => True) (o279 a) := by
  unfold o279
  repeat' (first | exact tS trivial | exact o305_t _ | exact o304_t _ | exact tT (o306_t _) | refine tBT ?_ (fun _ => ?_))
theorem o278_t (a : Int × Int) : Tot (fun _ => True) (o278 a) := by
  unfold o278
  repeat' (first | exact tS trivial | exact o305_t _ | exact o304_t _ | exact tT (o306_t _) | exact o279_t _ | refine tBT ?_ (fun _ => ?_))
theorem o280_t (a b : Int × Int × Int) : Tot sm33 (o280 a b) := by
  unfold o280
  exact tB (o306_t _) fun v h => tS h
theorem o244_t (a b : Int × Int) : Tot (fun v => sm33 v.1 ∧ sm33 v.2.1 ∧ sm33 v.2.2) (o244 a b) := by
  unfold o244
  refine tBT (o278_t _) fun v3 => tBT (o279_t _) fun v4 => tB (o280_t _ _) fun v8 h8 => tB (o280_t _ _) fun v9 h9 => tB (o280_t _ _) fun v10 h10 => tS ⟨h8, h9, h10⟩
theorem o134_t (a : Int × Int) : Tot (fun _ => True) (o134 a) := by
  unfold o134
  repeat' (first | exact tS trivial | refine tC (fun _ => ?_) (fun _ => ?_) | refine tBT ?_ (fun _ => ?_))
theorem o187_t (a : Int × Int) : Tot (fun _ => True) (o187 a) := by
  unfold o187
  repeat' (first | exact tS trivial | exact o134_t _ | refine tC (fun _ => ?_) (fun _ => ?_) | refine tBT ?_ (fun _ => ?_))
theorem o188_t (a b : Int × Int) : Tot (fun v => sm33 v.1.1 ∧ sm33 v.1.2 ∧ sm33 v.2.1) (o188 a b) := by
  unfold o188
  refine tBT ?_ fun v3 => tC (fun _ => tS ⟨sm33_0, sm33_0, sm33_0⟩) fun _ => tB (o244_t _ _) fun v4 h => tS h
  repeat' (first | exact tS trivial | exact o134_t _ | refine tC (fun _ => ?_) (fun _ => ?_) | refine tBT ?_ (fun _ => ?_))
theorem u64_in {x : Int} (h : 0 ≤ x ∧ x ≤ 18446744073709551615) : IntKind.wrap .u64 x = x := by
  rw [IntKind.wrap_u64]; omega
theorem o281_t {a : Int} (h : sm33 a) : Tot (fun r => 0 ≤ r ∧ r ≤ 8589934592 ∧ (a > 0 → r = a)) (o281 a) := by
  unfold o281
  obtain ⟨h1, h2⟩ := h
  refine tC (fun h => tS ?_) fun h => tS ?_
  · have h := dT h
    rw [IntKind.wrap_u64, IntKind.wrap_u64]
    omega
  · have h := dF h
    rw [u64_in (by omega)]
    omega
theorem shr32 {x : Int} (h : 0 ≤ x) : shrK .u64 x 32 = x / 4294967296 := by
  show x.fdiv (2 ^ (min (32 : Int).toNat IntKind.u64.bits)) = _
  rw [show (2 ^ (min (32 : Int).toNat IntKind.u64.bits) : Int) = 4294967296 from rfl, Int.fdiv_eq_ediv_of_nonneg _ (by decide)]
theorem land_le (x : Int) {m : Int} (h : 0 ≤ m ∧ m < 18446744073709551616) : 0 ≤ landK .u64 x m ∧ landK .u64 x m ≤ m := by
  have e : landK .u64 x m = IntKind.wrap .u64 ((BitVec.ofInt 64 x &&& BitVec.ofInt 64 m).toNat : Int) := rfl
  have h1 : (BitVec.ofInt 64 x &&& BitVec.ofInt 64 m).toNat ≤ (BitVec.ofInt 64 m).toNat := by
    rw [BitVec.toNat_and]; exact Nat.and_le_right
  have h2 : ((BitVec.ofInt 64 m).toNat : Int) = m := by
    rw [BitVec.toNat_ofInt]; omega
  rw [e, u64_in (by omega)]
  omega
theorem land_left {x : Int} (hx : 0 ≤ x ∧ x ≤ 18446744073709551615) (m : Int) : 0 ≤ landK .u64 x m ∧ landK .u64 x m ≤ x := by
  have e : landK .u64 x m = IntKind.wrap .u64 ((BitVec.ofInt 64 x &&& BitVec.ofInt 64 m).toNat : Int) := rfl
  have h1 : (BitVec.ofInt 64 x &&& BitVec.ofInt 64 m).toNat ≤ (BitVec.ofInt 64 x).toNat := by
    rw [BitVec.toNat_and]; exact Nat.and_le_left
  have h2 : ((BitVec.ofInt 64 x).toNat : Int) = x := by
    rw [BitVec.toNat_ofInt]; omega
  rw [e, u64_in (by omega)]
  omega
theorem o282_t {b : Int} (h : 0 ≤ b ∧ b ≤ 8589934592) : Tot (fun v => v.1 = 0) (o282 20626481 b) := by
  unfold o282
  refine tS ?_
  dsimp only
  rw [show shrK .u64 20626481 32 = 0 from rfl, show landK .u64 20626481 4294967295 = 20626481 by kernel_rfl, shr32 h.1]
  have hb := land_le b (m := 4294967295) ⟨by decide, by decide⟩
  generalize landK .u64 b 4294967295 = b0 at hb ⊢
  have hb1 : 0 ≤ b / 4294967296 ∧ b / 4294967296 ≤ 2 := by omega
  generalize b / 4294967296 = b1 at hb1 ⊢
  rw [Int.zero_mul, Int.zero_mul, u64_in (x := 20626481 * b0) (by omega), u64_in (x := 0) (by omega), shr32 (x := 20626481 * b0) (by omega)]
  have h3 : 0 ≤ 20626481 * b0 / 4294967296 ∧ 20626481 * b0 / 4294967296 ≤ 20626481 := by omega
  generalize 20626481 * b0 / 4294967296 = t at h3 ⊢
  rw [Int.zero_add, Int.zero_add, u64_in (x := t) (by omega), shr32 (x := t) h3.1, show t / 4294967296 = 0 by omega]
  have h4 := land_left (x := t) (by omega) 4294967295
  generalize landK .u64 t 4294967295 = s at h4 ⊢
  rw [u64_in (x := 20626481 * b1) (by omega), u64_in (x := s + 20626481 * b1) (by omega), shr32 (by omega), show (s + 20626481 * b1) / 4294967296 = 0 by omega]
  rfl
theorem o283_t (lo : Int) {c : Int} (h : 0 < c) : Tot (fun _ => True) (o283 0 lo c) := by
  unfold o283
  refine tC (fun h2 => by have := eT h2; omega) fun _ => tC (fun h2 => by have := dT h2; omega) fun _ => tC (fun _ => tG (dt (by omega)) (tG (dt (by omega)) (tS trivial))) fun h2 => by cases h2
theorem o284_t (a : Int) (b : Bool) : Tot (fun _ => True) (o284 a b) := by
  unfold o284
  repeat' (first | exact tS trivial | refine tC (fun _ => ?_) (fun _ => ?_) | refine tBT ?_ (fun _ => ?_))
theorem o281_c : o281 20626481 = some 20626481 := by kernel_rfl
theorem o245_t {b c : Int} (hb : sm33 b) (hc : sm33 c) (h0 : c > 0) : Tot (fun _ => True) (o245 20626481 b c 2) := by
  unfold o245
  refine tC (fun h => by have := eT h; omega) fun _ => ?_
  refine tB (o281_t hc) fun v1 h1 => ?_
  have e1 := h1.2.2 h0
  subst e1
  refine tB ⟨_, o281_c, rfl⟩ fun v2 h2 => ?_
  subst h2
  refine tB (o281_t hb) fun v3 h3 => tB (o282_t ⟨h3.1, h3.2.1⟩) fun v4 h4 => ?_
  refine tC (fun _ => tS trivial) fun _ => ?_
  rw [h4]
  refine tBT (o283_t _ h0) fun v5 => ?_
  refine tBT ?_ fun v9 => ?_
  · repeat' (first | exact tS trivial | refine tC (fun _ => ?_) (fun _ => ?_) | refine tBT ?_ (fun _ => ?_))
  · refine tJ (P := fun _ => True) ?_ fun v10 _ => tBT (o284_t _ _) fun _ => tS trivial
    repeat' (first | exact tGo trivial | exact tDn (tS trivial) | refine tC (fun _ => ?_) (fun _ => ?_))
theorem o189_t {b c : Int} (hb : sm33 b) (hc : sm33 c) (h0 : c > 0) : Tot (fun _ => True) (o189 20626481 b c) := by
  unfold o189
  exact tBT (o245_t hb hc h0) fun _ => tS trivial
theorem o190_t (a : Int × Int) : Tot (fun _ => True) (o190 a) := by
  unfold o190
  repeat' (first | exact tS trivial | refine tC (fun _ => ?_) (fun _ => ?_) | refine tBT ?_ (fun _ => ?_))
theorem o131_t (a b : Int × Int) : Tot (fun _ => True) (o131 a b) := by
  unfold o131
  refine tBT ?_ fun v3 => tC (fun _ => tS trivial) fun _ => ?_
  · repeat' (first | exact tS trivial | exact o187_t _ | exact o134_t _ | refine tC (fun _ => ?_) (fun _ => ?_) | refine tBT ?_ (fun _ => ?_))
  · refine tB (o188_t _ _) fun v4 h4 => tC (fun _ => tS trivial) fun h => ?_
    have h := dF h
    refine tBT (o189_t h4.1 h4.2.2 (by omega)) fun v5 => tBT (o189_t h4.2.1 h4.2.2 (by omega)) fun v6 => tBT (o190_t _) fun v7 => tC (fun _ => tS trivial) fun _ => tS trivial
def jan (y : Int) : Int := 365 * (y - 2000) + (y - 2000 + 3) / 4
theorem o146_eq {y : Int} (h : 2000 ≤ y ∧ y ≤ 3000) : o146 y = some (jan y) := by
  unfold o146 jan
  rw [wr64 (x := y - 2000) (by omega), wr64 (x := y - 2000 + 3) (by omega), Int.tdiv_eq_ediv_of_nonneg (by omega), wr64 (x := 365 * (y - 2000)) (by omega), wr64 (x := (y - 2000 + 3) / 4) (by omega), wr64 (by omega)]
def fst_ (y : Int) : Int := if jan y - 26 ≤ 0 then 26 else 26 + (jan y - 26 + 28 - 1) / 28 * 28
theorem fst_in {y : Int} (h : 2000 ≤ y ∧ y ≤ 3000) : fst_ y % 28 = 26 ∧ 26 ≤ fst_ y ∧ fst_ y ≤ 1000000 := by
  unfold fst_ jan
  split <;> omega
theorem o77_eq {y : Int} (h : 2000 ≤ y ∧ y ≤ 3000) : o77 y = some (fst_ y) := by
  unfold o77
  rw [bdS (o146_eq h)]
  have hj : 0 ≤ jan y ∧ jan y ≤ 1000000 := by unfold jan; omega
  unfold fst_
  generalize jan y = j at hj ⊢
  rw [wr64 (x := j - 26) (by omega)]
  by_cases h0 : j - 26 ≤ 0
  · rw [cndT (dt h0), if_pos h0]
  · rw [cndF (df h0), if_neg h0, wr64 (x := j - 26 + 28) (by omega), wr64 (x := j - 26 + 28 - 1) (by omega), Int.tdiv_eq_ediv_of_nonneg (by omega), wr64 (x := (j - 26 + 28 - 1) / 28) (by omega), wr64 (x := (j - 26 + 28 - 1) / 28 * 28) (by omega), wr64 (by omega)]
def md (b : Bool) (m : Int) : Int := if m = 2 then (if b = true then 29 else 28) else if m = 4 ∨ m = 6 ∨ m = 9 ∨ m = 11 then 30 else 31
def rm (b : Bool) (m : Int) : Int := if m = 1 then (if b = true then 366 else 365) else if m = 2 then (if b = true then 335 else 334) else if m = 3 then 306 else if m = 4 then 275 else if m = 5 then 245 else if m = 6 then 214 else if m = 7 then 184 else if m = 8 then 153 else if m = 9 then 122 else if m = 10 then 92 else if m = 11 then 61 else if m = 12 then 31 else 0
theorem m12 {m : Int} (h : 1 ≤ m ∧ m ≤ 12) : m = 1 ∨ m = 2 ∨ m = 3 ∨ m = 4 ∨ m = 5 ∨ m = 6 ∨ m = 7 ∨ m = 8 ∨ m = 9 ∨ m = 10 ∨ m = 11 ∨ m = 12 := by omega
theorem rm_succ (b : Bool) {m : Int} (h : 1 ≤ m ∧ m ≤ 12) : rm b m = md b m + rm b (m + 1) := by
  rcases m12 h with rfl | rfl | rfl | rfl | rfl | rfl | rfl | rfl | rfl | rfl | rfl | rfl <;> cases b <;> decide
theorem md_in (b : Bool) (m : Int) : 28 ≤ md b m ∧ md b m ≤ 31 := by
  unfold md
  split
  · split <;> omega
  · split <;> omega
def leap (y : Int) : Bool := Int.tmod y 4 == 0
theorem o200_eq {y : Int} (h : 2000 ≤ y ∧ y ≤ 2099) : o200 y = some (leap y) := by
  unfold o200
  rw [cndT (dt (by omega)), cndT (dt (by omega))]
  rfl
theorem o147_eq {y : Int} (hy : 2000 ≤ y ∧ y ≤ 2099) {m : Int} (hm : 1 ≤ m ∧ m ≤ 12) : o147 y m = some (md (leap y) m) := by
  unfold o147
  rw [cndF (df (by omega)), cndF (df (by omega)), cndF (df (by omega)), df (show ¬ m > 12 by omega), bdI]
  rcases m12 hm with rfl | rfl | rfl | rfl | rfl | rfl | rfl | rfl | rfl | rfl | rfl | rfl
  case inr.inl =>
    refine (cndF rfl).trans ?_
    dsimp only
    rw [cndT (show ((2 : Int) == 2) = true from rfl), bdS (o200_eq hy)]
    cases leap y <;> rfl
  all_goals rfl
theorem jan_succ {y : Int} (h : 2000 ≤ y ∧ y ≤ 2099) : jan (y + 1) = jan y + rm (leap y) 1 := by
  unfold jan leap rm
  rw [if_pos rfl, Int.tmod_eq_emod_of_nonneg (by omega)]
  by_cases h4 : y % 4 = 0
  · rw [if_pos (by simpa using h4)]; omega
  · rw [if_neg (by simpa using h4)]; omega
theorem o76_t (d : Int) : Tot (fun v => (v.2.2 = 0 → 2000 ≤ v.1.1 ∧ v.1.1 ≤ 2099) ∧ (0 ≤ d ∧ d ≤ 36524 → v.2.2 = 0)) (o76 d) := by
  unfold o76
  refine tB (P := fun v : Int × Bool => v.1 = d ∧ (v.2 = false → 0 ≤ d ∧ d ≤ 36524) ∧ (v.2 = true → ¬ (0 ≤ d ∧ d ≤ 36524))) ?_ fun v hv => ?_
  · exact tC (fun h => tS ⟨rfl, fun h => (by cases h), fun _ => by have h := dT h; omega⟩) fun h => tS ⟨rfl, fun h2 => (by have h := dF h; have h2 := dF h2; omega), fun h2 => by have h2 := dT h2; omega⟩
  obtain ⟨v1, v2⟩ := v
  obtain ⟨rfl, h0, hn⟩ := hv
  refine tC (fun h => tS ⟨fun h => (by cases h), fun h2 => absurd h2 (hn h)⟩) fun h => ?_
  have hd := h0 h
  dsimp only at hd ⊢
  rw [Int.tdiv_eq_ediv_of_nonneg (by omega), wr64 (x := v1 / 366) (by omega), wr64 (by omega)]
  refine tL (fun t : Int × Int => t.1 = v1 ∧ 2000 ≤ t.2 ∧ t.2 ≤ 2099 ∧ jan t.2 ≤ v1) (fun t => (2100 - t.2).toNat) ?_ ⟨rfl, by dsimp only; omega, by dsimp only; omega, by unfold jan; dsimp only; omega⟩ (by dsimp only; omega)
  rintro ⟨t1, y⟩ ⟨e1, h1, h2, h3⟩
  dsimp only at e1 h1 h2 h3 ⊢
  subst e1
  rw [wr64 (x := y + 1) (by omega)]
  refine tB ⟨_, o146_eq (by omega), rfl⟩ fun v3 e3 => ?_
  subst e3
  refine tC (fun h => tGo ?_) fun h => tDn ?_
  · have h := dT h
    have : y + 1 ≤ 2099 := by unfold jan at h; omega
    exact ⟨⟨rfl, by dsimp only; omega, this, h⟩, by dsimp only; omega⟩
  · have h := dF h
    rw [jan_succ ⟨h1, h2⟩] at h
    refine tB ⟨_, o146_eq (by omega), rfl⟩ fun v4 e4 => ?_
    subst e4
    generalize jan y = j at h h3 ⊢
    have hr : rm (leap y) 1 ≤ 366 := by unfold rm; rw [if_pos rfl]; split <;> omega
    rw [wr64 (x := t1 - j) (by omega)]
    refine tL (fun t : Int × Int × Int => t.1 = y ∧ 1 ≤ t.2.1 ∧ t.2.1 ≤ 12 ∧ 0 ≤ t.2.2 ∧ t.2.2 ≤ 366 ∧ t.2.2 < rm (leap y) t.2.1) (fun t => (13 - t.2.1).toNat) ?_ ⟨rfl, by dsimp only; omega, by dsimp only; omega, by dsimp only; omega, by dsimp only; omega, by dsimp only; omega⟩ (by dsimp only; omega)
    rintro ⟨u1, m, r⟩ ⟨e1, k1, k2, k3, k4, k5⟩
    dsimp only at e1 k1 k2 k3 k4 k5 ⊢
    subst e1
    refine tB ⟨_, o147_eq ⟨h1, h2⟩ ⟨k1, k2⟩, rfl⟩ fun v7 e7 => ?_
    subst e7
    have hm := md_in (leap u1) m
    refine tC (fun h => ?_) fun h => tDn (tS ⟨fun _ => ⟨h1, h2⟩, fun _ => rfl⟩)
    have h := dT h
    refine tB ⟨_, o147_eq ⟨h1, h2⟩ ⟨k1, k2⟩, rfl⟩ fun v8 e8 => ?_
    subst e8
    rw [rm_succ _ ⟨k1, k2⟩] at k5
    rw [wr64 (x := m + 1) (by omega), wr64 (by omega)]
    have : m ≠ 12 := fun e => by subst e; rw [show rm (leap u1) (12 + 1) = 0 from rfl] at k5; omega
    refine tGo ⟨⟨rfl, by dsimp only; omega, by dsimp only; omega, by dsimp only; omega, by dsimp only; omega, by dsimp only; omega⟩, by dsimp only; omega⟩
theorem o36_t {d : Int} (h : 0 ≤ d ∧ d ≤ 36524) : Tot (fun _ => True) (o36 d) := by
  unfold o36
  refine tB (o76_t d) fun v hv => ?_
  have hy := hv.1 (hv.2 h)
  exact tB ⟨_, o77_eq (by omega), rfl⟩ fun _ _ => tS trivial
theorem o115_t (n : Int) : Tot (fun v => v.2.2 = 0 → 26 ≤ v.1 ∧ v.1 ≤ 36524 ∧ v.1 % 28 = 26 ∧ v.2.1 = v.1 + 28 ∧ o36 v.1 = some n) (o115 n) := by
  unfold o115
  refine tB (P := fun v : Int × Bool => v.1 = n ∧ (v.2 = false → 0 ≤ n ∧ n ≤ 9999)) ?_ fun v hv => ?_
  · exact tC (fun h => tS ⟨rfl, fun h => by cases h⟩) fun h => tS ⟨rfl, fun h2 => by have h := dF h; have h2 := dF h2; omega⟩
  obtain ⟨v1, v2⟩ := v
  obtain ⟨rfl, h0⟩ := hv
  refine tC (fun h => tS fun h => by cases h) fun h => ?_
  have hd := h0 h
  dsimp only at hd ⊢
  rw [Int.tdiv_eq_ediv_of_nonneg (by omega), Int.tmod_eq_emod_of_nonneg (by omega), wr64 (x := v1 / 100) (by omega), wr64 (x := 2000 + v1 / 100) (by omega)]
  have hf := fst_in (y := 2000 + v1 / 100) (by omega)
  refine tB ⟨_, o77_eq (by omega), rfl⟩ fun v2 e2 => ?_
  subst e2
  generalize fst_ (2000 + v1 / 100) = f at hf ⊢
  rw [wr64 (x := v1 % 100 - 1) (by omega), wr64 (x := (v1 % 100 - 1) * 28) (by omega), wr64 (x := f + (v1 % 100 - 1) * 28) (by omega)]
  have hF : (f + (v1 % 100 - 1) * 28) % 28 = 26 ∧ f + (v1 % 100 - 1) * 28 ≤ 2000000 ∧ -100 ≤ f + (v1 % 100 - 1) * 28 := by omega
  generalize f + (v1 % 100 - 1) * 28 = F at hF ⊢
  refine tB (P := fun v : Int × Bool => v.2 = false → v.1 = F ∧ 26 ≤ F ∧ F ≤ 36524 ∧ o36 F = some v1) ?_ fun v hv => ?_
  · refine tC (fun h => tS fun h => by cases h) fun _ => tC (fun h => tS fun h => by cases h) fun h1 => tC (fun h => tS fun h => by cases h) fun h2 => ?_
    have h1 := dF h1
    have h2 := dF h2
    obtain ⟨r, e, _⟩ := o36_t (d := F) (by omega)
    rw [e]
    exact tS fun h => ⟨rfl, by omega, by omega, by rw [nF h]⟩
  · refine tC (fun _ => tS fun h => by cases h) fun h => tS fun _ => ?_
    obtain ⟨e, h1, h2, h3⟩ := hv h
    rw [e, wr64 (by omega)]
    exact ⟨h1, h2, hF.1, rfl, h3⟩
def P47 (s : List UInt8) : Prop := s.length ≤ 140737488355328
def cycOk (c f t : Int) : Prop := 26 ≤ f ∧ f ≤ 36524 ∧ f % 28 = 26 ∧ t = f + 28 ∧ o36 f = some c
theorem o63_t (a : (List UInt8 × Int × Int) × Int × Int × Int) (hs : P47 a.1.1) : Tot (fun r => r = 0 → a.1.1.length ≤ 8 ∧ cycOk a.1.2.1 a.1.2.2 a.2.1) (o63 a) := by
  unfold o63
  refine tB (o130_t _ 8 hs) fun v1 h1 => ?_
  refine tC (fun _ => tS fun h => by cases h) fun h => ?_
  have h1 := h1 (notF h)
  refine tB (o115_t _) fun v2 h2 => ?_
  refine tC (fun h => tS fun e => absurd e (nT h)) fun h => ?_
  obtain ⟨k1, k2, k3, k4, k5⟩ := h2 (nF h)
  refine tB (P := fun v => v.2 = a ∧ (v.1 = false → a.1.2.2 = v2.1 ∧ a.2.1 = v2.2.1)) ?_ fun v3 h3 => ?_
  · exact tC (fun _ => tS ⟨rfl, fun h => by cases h⟩) fun h => tS ⟨rfl, fun h2 => ⟨nF h, nF h2⟩⟩
  · obtain ⟨b, v3⟩ := v3
    obtain ⟨rfl, h3⟩ := h3
    refine tC (fun _ => tS fun h => by cases h) fun h => ?_
    obtain ⟨e1, e2⟩ := h3 h
    refine tBT (o131_t _ _) fun v4 => tS fun _ => ⟨by omega, ?_⟩
    dsimp only at e1 e2 ⊢
    rw [e1, e2]
    exact ⟨k1, k2, k3, k4, k5⟩
theorem o67_t (a : (List UInt8 × List UInt8 × Int) × (Int × Int) × Int × Int) (h1 : P47 a.1.1) (h2 : P47 a.1.2.1) : Tot (fun _ => True) (o67 a) := by
  unfold o67
  unfold P47 at h1 h2
  exact tG (dt (by simp only [List.length_cons, List.length_nil]; omega)) (tG (dt (by simp only [List.length_append, List.length_cons, List.length_nil]; omega)) (tS trivial))
theorem o69_t (a : (List UInt8 × List UInt8 × Int) × (Int × Int) × Int × Int) (h1 : P47 a.1.1) (h2 : P47 a.1.2.1) (x y z : List (List UInt8 × Bool)) : Tot (fun _ => True) (o69 a x y z) := by
  unfold o69
  refine tBT (o67_t a h1 h2) fun v2 => tB (P := fun v => v.2.2 = a) ?_ fun v3 h3 => ?_
  · exact tC (fun _ => tS rfl) fun _ => tS rfl
  · rw [h3]
    exact tC (fun _ => tBT (o67_t a h1 h2) fun _ => tS trivial) fun _ => tS trivial
theorem getD_memE {α : Type} {l : List α} {i : Nat} {d : α} (h : i < l.length) : l.getD i d ∈ l := by
  rw [getD_of h]; exact List.getElem_mem h
def inF (f : Fix_) : Prop := P47 f.1 ∧ P47 f.2.1
theorem o64v1_t (l : List Fix_) (hl : l.length ≤ 1000000) (h : ∀ f ∈ l, inF f) : Tot (fun _ => True) (o64v1 l) := by
  unfold o64v1
  refine tL (fun t => t.1.1 = l ∧ t.1.2.1 = (l.length : Int) ∧ 0 ≤ t.1.2.2 ∧ t.1.2.2 ≤ ((l.length : Nat) : Int)) (fun t => Int.toNat (((l.length : Nat) : Int) - t.1.2.2)) ?_ ⟨rfl, rfl, Int.le_refl _, by simp⟩ (by dsimp only; omega)
  rintro ⟨⟨t1, t2, t3⟩, t4⟩ ⟨e1, e2, h3, h4⟩
  dsimp only at e1 e2 h3 h4 ⊢
  subst e1; subst e2
  refine tC (fun hc => ?_) fun hc => tDn (tS trivial)
  have hc := dT hc
  refine tG (dt (by omega)) (tI ?_)
  have hm := h _ (getD_memE (d := Df60bb56) (show t3.toNat < t1.length by omega))
  refine tBT (o69_t _ hm.1 hm.2 _ _ _) fun v4 => tGo ?_
  rw [wr64 (by omega)]
  exact ⟨⟨rfl, rfl, by dsimp only; omega, by dsimp only; omega⟩, by dsimp only; omega⟩
theorem o191_t (s : List UInt8) (hs : P47 s) : Tot (fun _ => True) (o191 s) := by
  unfold o191
  unfold P47 at hs
  refine tB (P := fun v => v.1 = s ∧ (v.2 = false → 4 ≤ s.length ∧ s.length ≤ 5)) ?_ fun v hv => ?_
  · refine tC (fun _ => tS ⟨rfl, fun h => by cases h⟩) fun h1 => tC (fun _ => tS ⟨rfl, fun h => by cases h⟩) fun h2 => ?_
    have h1 := dF h1
    have h2 := dF h2
    exact tG (dt (by omega)) (tS ⟨rfl, fun _ => by omega⟩)
  · obtain ⟨v1, v2⟩ := v
    obtain ⟨rfl, hv⟩ := hv
    refine tC (fun _ => tS trivial) fun h => ?_
    obtain ⟨l1, l2⟩ := hv h
    dsimp only at l1 l2 ⊢
    refine tB (P := fun v => v.1 = v1) ?_ fun v2 e2 => ?_
    · refine tC (fun h => ?_) fun h => tS rfl
      have h := eT h
      exact tG (dt (by omega)) (tC (fun _ => tG (dt (by omega)) (tC (fun _ => tG (dt (by omega)) (tS rfl)) fun _ => tS rfl)) fun _ => tS rfl)
    · obtain ⟨w1, w2⟩ := v2
      obtain rfl : w1 = v1 := e2
      refine tC (fun _ => tS trivial) fun h => ?_
      dsimp only
      refine tB (P := fun v => v.1 = w1) ?_ fun v3 e3 => ?_
      · exact tG (dt (by omega)) (tC (fun _ => tS rfl) fun _ => tG (dt (by omega)) (tC (fun _ => tS rfl) fun _ => tG (dt (by omega)) (tC (fun _ => tS rfl) fun _ => tG (dt (by omega)) (tS rfl))))
      · obtain ⟨u1, u2⟩ := v3
        obtain rfl : u1 = w1 := e3
        refine tC (fun _ => tS trivial) fun h => ?_
        dsimp only
        refine tG (dt (by omega)) (tG (dt (by omega)) (tBT (tC (fun _ => tS trivial) fun _ => tS trivial) fun _ => tS trivial))
theorem o132_t (s : List UInt8) (k : Int) (hs : P47 s) : Tot (fun r => r = 0 → s.length ≤ 6) (o132 s k) := by
  unfold o132
  refine tB (P := fun v => v = false → s.length ≤ 6) ?_ fun v hv => tC (fun _ => tS fun h => by cases h) fun h => tS fun _ => hv h
  refine tB (o130_t _ 6 hs) fun v1 h1 => tC (fun _ => tS fun h => by cases h) fun h => ?_
  have h1 := h1 (notF h)
  exact tC (fun _ => tBT (o191_t s hs) fun _ => tS fun _ => by omega) fun _ => tS fun _ => by omega
theorem o133_t (s : List UInt8) (k : Int) (hs : P47 s) : Tot (fun r => r = 0 → s.length ≤ 6) (o133 s k) := by
  unfold o133
  refine tB (P := fun v => v = false → s.length ≤ 6) ?_ fun v hv => tC (fun _ => tS fun h => by cases h) fun h => tS fun _ => hv h
  refine tC (fun hk => ?_) fun hk => ?_
  · refine tB (o130_t _ 6 hs) fun v1 h1 => tC (fun _ => tS fun h => by cases h) fun h => ?_
    have h1 := h1 (notF h)
    exact tC (fun _ => tB (o192_t s) fun _ _ => tS fun _ => by omega) fun _ => tS fun _ => by omega
  · refine tC (fun _ => tB (o192_t s) fun v h => tS fun e => ?_) fun h => absurd (nF h) (eF hk)
    have := h (by simpa using e)
    omega
theorem o120_t (a : Int) : Tot (fun _ => True) (o120 a) := by
  unfold o120
  repeat' (first | exact tS trivial | refine tC (fun _ => ?_) (fun _ => ?_) | refine tBT ?_ (fun _ => ?_))
theorem o122_t (a : Int) : Tot (fun _ => True) (o122 a) := by
  unfold o122
  repeat' (first | exact tS trivial | refine tC (fun _ => ?_) (fun _ => ?_) | refine tBT ?_ (fun _ => ?_))
theorem o65_t (a : (List UInt8 × List UInt8 × Int) × (Int × Int) × Int × Int) (h1 : P47 a.1.1) (h2 : P47 a.1.2.1) : Tot (fun r => r = 0 → a.1.1.length ≤ 6 ∧ a.1.2.1.length ≤ 6) (o65 a) := by
  unfold o65
  refine tB (P := fun v => v.2 = a) ?_ fun v1 e1 => ?_
  · exact tC (fun _ => tS rfl) fun _ => tS rfl
  obtain ⟨b, v1⟩ := v1
  obtain rfl : v1 = a := e1
  refine tC (fun _ => tS fun h => by cases h) fun _ => ?_
  refine tB (o132_t _ _ h1) fun v2 k2 => tC (fun h => tS fun e => absurd e (nT h)) fun h => ?_
  have k2 := k2 (nF h)
  refine tB (o133_t _ _ h2) fun v3 k3 => tC (fun h => tS fun e => absurd e (nT h)) fun h => ?_
  have k3 := k3 (nF h)
  refine tW (R := fun _ => True) ?_ fun _ _ _ => ⟨k2, k3⟩
  refine tBT (o134_t _) fun v4 => tC (fun _ => tS trivial) fun _ => tJ (P := fun _ => True) ?_ fun v7 _ => ?_
  · repeat' (first | exact tGo trivial | exact tS trivial | exact tDn (tS trivial) | exact o120_t _ | refine tC (fun _ => ?_) (fun _ => ?_) | refine tBT ?_ (fun _ => ?_))
  · repeat' (first | exact tS trivial | exact o122_t _ | refine tC (fun _ => ?_) (fun _ => ?_) | refine tBT ?_ (fun _ => ?_))
theorem o48_t (a b : List UInt8) : Tot (fun _ => True) (o48 a b) := by
  unfold o48
  refine tBT ⟨_, rfl, trivial⟩ fun v1 => tBT ⟨_, rfl, trivial⟩ fun v2 => ?_
  repeat' (first | exact tS trivial | refine tC (fun _ => ?_) (fun _ => ?_))
theorem o66_t (a : Int) : Tot (fun _ => True) (o66 a) := by
  unfold o66
  repeat' (first | exact tS trivial | refine tC (fun _ => ?_) (fun _ => ?_))
theorem o68_t (a : (List UInt8 × List UInt8 × Int) × (Int × Int) × Int × Int) (b : Int × Int) (x y z u v w : List (List UInt8 × Bool)) : Tot (fun _ => True) (o68 a b x y z u v w) := by
  unfold o68
  repeat' (first | exact tS trivial | exact o131_t _ _ | refine tC (fun _ => ?_) (fun _ => ?_) | refine tBT ?_ (fun _ => ?_))
theorem o246_t (l : List Pt_) (s : List UInt8) (hl : l.length ≤ 1000000) : Tot (fun _ => True) (o246 l s) := by
  unfold o246
  refine tL (fun t => t.1.1 = l ∧ t.1.2 = (l.length : Int) ∧ 0 ≤ t.2.1 ∧ t.2.1 ≤ ((l.length : Nat) : Int)) (fun t => Int.toNat (((l.length : Nat) : Int) - t.2.1)) ?_ ⟨rfl, rfl, Int.le_refl _, by simp⟩ (by dsimp only; omega)
  rintro ⟨⟨t1, t2⟩, t3, t4⟩ ⟨e1, e2, h3, h4⟩
  dsimp only at e1 e2 h3 h4 ⊢
  subst e1; subst e2
  refine tC (fun hc => ?_) fun hc => tDn (tS trivial)
  have hc := dT hc
  refine tG (dt (by omega)) (tI (tBT ⟨_, rfl, trivial⟩ fun v4 => tC (fun _ => tDn (tS trivial)) fun _ => tGo ?_))
  rw [wr64 (by omega)]
  exact ⟨⟨rfl, rfl, by dsimp only; omega, by dsimp only; omega⟩, by dsimp only; omega⟩
theorem o194_t (a : Air_) (s : List UInt8) (hl : a.2.length ≤ 1000000) : Tot (fun _ => True) (o194 a s) := by
  unfold o194
  exact tBT (o246_t _ _ hl) fun _ => tS trivial
theorem o135_t (a : Air_) (i : Int) (hl : a.2.length ≤ 1000000) (hi : 0 ≤ i ∧ i < a.2.length) (h : ∀ p ∈ a.2, P47 p.1) : Tot (fun r => r = 0 → (a.2.getD i.toNat Dfe5cb60).1.length ≤ 13) (o135 a i) := by
  unfold o135
  have hm := h _ (getD_memE (d := Dfe5cb60) (show i.toNat < a.2.length by omega))
  refine tG (dt hi) (tI ?_)
  generalize a.2.getD i.toNat Dfe5cb60 = p at hm ⊢
  refine tB (o193_t _ hm) fun v2 h2 => tC (fun _ => tS fun h => by cases h) fun h => ?_
  have h2 := h2 (nF h)
  refine tW (R := fun _ => True) ?_ fun _ _ _ => h2
  refine tBT (o194_t a _ hl) fun v3 => ?_
  repeat' (first | exact tS trivial | exact ⟨_, rfl, trivial⟩ | refine tC (fun _ => ?_) (fun _ => ?_) | refine tBT ?_ (fun _ => ?_))
def inA (a : Air_) : Prop := P47 a.1 ∧ a.2.length ≤ 1000000 ∧ ∀ p ∈ a.2, P47 p.1
def gA (a : Air_) : Prop := a.1.length ≤ 8 ∧ ∀ p ∈ a.2, p.1.length ≤ 13
theorem all_ix {α : Type} {l : List α} {d : α} {Q : α → Prop} (h : ∀ j : Nat, j < l.length → Q (l.getD j d)) : ∀ x ∈ l, Q x := fun x hx => by
  obtain ⟨j, hj, e⟩ := List.getElem_of_mem hx
  have := h j hj
  rw [getD_of hj, e] at this
  exact this
theorem ix_succ {α : Type} {l : List α} {d : α} {Q : α → Prop} {i : Int} (h0 : 0 ≤ i) (h : ∀ j : Nat, (j : Int) < i → Q (l.getD j d)) (hi : Q (l.getD i.toNat d)) : ∀ j : Nat, (j : Int) < i + 1 → Q (l.getD j d) := fun j hj => by
  by_cases e : (j : Int) < i
  · exact h j e
  · have : j = i.toNat := by omega
    rw [this]; exact hi
theorem o70_t (a : Air_) (h : inA a) : Tot (fun r => r = 0 → gA a) (o70 a) := by
  obtain ⟨h1, h2, h3⟩ := h
  unfold o70
  refine tB (o130_t _ 8 h1) fun v1 k1 => tC (fun _ => tS fun h => by cases h) fun h => ?_
  have k1 := k1 (notF h)
  refine tC (fun _ => tS fun h => by cases h) fun _ => tC (fun _ => tS fun h => by cases h) fun _ => ?_
  refine tL (fun t => t.2.2 = a ∧ t.1 = (a.2.length : Int) ∧ 0 ≤ t.2.1 ∧ t.2.1 ≤ ((a.2.length : Nat) : Int) ∧ ∀ j : Nat, (j : Int) < t.2.1 → (a.2.getD j Dfe5cb60).1.length ≤ 13) (fun t => Int.toNat (((a.2.length : Nat) : Int) - t.2.1)) ?_ ⟨rfl, rfl, Int.le_refl _, by simp, fun j hj => absurd hj (by dsimp only; omega)⟩ (by dsimp only; omega)
  rintro ⟨t1, t2, t3⟩ ⟨e1, e2, g3, g4, g5⟩
  dsimp only at e1 e2 g3 g4 g5 ⊢
  subst e1; subst e2
  refine tC (fun hc => ?_) fun hc => tDn (tS fun _ => ?_)
  · have hc := dT hc
    refine tB (o135_t t3 t2 h2 ⟨g3, hc⟩ h3) fun v4 k4 => tC (fun h => tDn (tS fun e => absurd e (nT h))) fun h => tGo ?_
    rw [wr64 (by omega)]
    exact ⟨⟨rfl, rfl, by dsimp only; omega, by dsimp only; omega, ix_succ (Q := fun p : Pt_ => p.1.length ≤ 13) g3 g5 (k4 (nF h))⟩, by dsimp only; omega⟩
  · have hc := dF hc
    exact ⟨by omega, all_ix (Q := fun p : Pt_ => p.1.length ≤ 13) fun j hj => g5 j (by omega)⟩
def inL (l : Leg_) : Prop := P47 l.2.1 ∧ P47 l.2.2.1
def inX (x : Part_) : Prop := P47 x.2.1 ∧ x.2.2.length ≤ 1000 ∧ ∀ l ∈ x.2.2, inL l
def inP (p : Proc_) : Prop := (P47 p.1 ∧ P47 p.2.1) ∧ p.2.2.2.length ≤ 1000 ∧ ∀ x ∈ p.2.2.2, inX x
def gL (l : Leg_) : Prop := l.2.1.length ≤ 13 ∧ l.2.2.1.length ≤ 13
def gX (x : Part_) : Prop := x.2.1.length ≤ 8 ∧ ∀ l ∈ x.2.2, gL l
def gP (p : Proc_) : Prop := (p.1.length ≤ 6 ∧ p.2.1.length ≤ 8) ∧ ∀ x ∈ p.2.2.2, gX x
def inQ (p : Ty83d737) : Prop := (P47 p.1.1 ∧ P47 p.1.2) ∧ p.2.2.length ≤ 1000 ∧ ∀ x ∈ p.2.2, inX x
theorem o136_t (k : Int) : Tot (fun v => ∀ l, v = .inr l → l.length = 3) (o136 k) := by
  unfold o136
  have k : ∀ a b c : UInt8, ∀ l, (Sum.inr [a, b, c] : Unit ⊕ List UInt8) = .inr l → l.length = 3 := fun a b c l h => by
    injection h with h
    rw [← h]; rfl
  exact tC (fun _ => tS (k _ _ _)) fun _ => tC (fun _ => tS (k _ _ _)) fun _ => tC (fun _ => tS (k _ _ _)) fun _ => tS fun l h => by cases h
theorem o196_t (l : List UInt8) (k : Int) (hl : l.length ≤ 1000) : Tot (fun _ => True) (o196 l k) := by
  unfold o196
  refine tL (fun t => t.1.1 = l ∧ t.2.1 = (l.length : Int) ∧ 0 ≤ t.2.2 ∧ t.2.2 ≤ ((l.length : Nat) : Int)) (fun t => Int.toNat (((l.length : Nat) : Int) - t.2.2)) ?_ ⟨rfl, rfl, Int.le_refl _, by simp⟩ (by dsimp only; omega)
  rintro ⟨⟨t1, t2⟩, t3, t4⟩ ⟨e1, e2, h3, h4⟩
  dsimp only at e1 e2 h3 h4 ⊢
  subst e1; subst e2
  refine tC (fun hc => ?_) fun hc => tDn (tS trivial)
  have hc := dT hc
  refine tG (dt (by omega)) (tC (fun _ => tDn (tS trivial)) fun _ => tGo ?_)
  rw [wr64 (by omega)]
  exact ⟨⟨rfl, rfl, by dsimp only; omega, by dsimp only; omega⟩, by dsimp only; omega⟩
theorem o197_t (a : Ty83d737) (b c : Int) : Tot (fun _ => True) (o197 a b c) := by
  unfold o197
  repeat' (first | exact tS trivial | refine tC (fun _ => ?_) (fun _ => ?_) | refine tBT ?_ (fun _ => ?_))
theorem o248_t (a b : Int) : Tot (fun _ => True) (o248 a b) := by
  unfold o248
  repeat' (first | exact tS trivial | exact tT (o182_t _) | refine tC (fun _ => ?_) (fun _ => ?_) | refine tBT ?_ (fun _ => ?_))
theorem o249_t (a : Int) : Tot (fun _ => True) (o249 a) := by
  unfold o249
  repeat' (first | exact tS trivial | refine tC (fun _ => ?_) (fun _ => ?_) | refine tBT ?_ (fun _ => ?_))
theorem o198_t (a b : Ty22ecb9) : Tot (fun _ => True) (o198 a b) := by
  unfold o198
  repeat' (first | exact tS trivial | exact o248_t _ _ | exact o249_t _ | refine tC (fun _ => ?_) (fun _ => ?_) | refine tBT ?_ (fun _ => ?_))
theorem o137_t (a : Ty83d737) (i : Int) (h : inQ a) (hi : 0 ≤ i ∧ i < a.2.2.length) : Tot (fun r => r = 0 → gX (a.2.2.getD i.toNat Df766161)) (o137 a i) := by
  obtain ⟨_, hn, hx⟩ := h
  unfold o137
  refine tB (P := fun v => v.1 = i ∧ v.2.1 = a ∧ v.2.2.length ≤ 1000) ?_ fun v4 h4 => ?_
  · refine tB (o136_t _) fun v1 h1 => tM (x := none) (fun _ _ => tS ⟨rfl, rfl, by simp⟩) fun l e => tS ⟨rfl, rfl, ?_⟩
    have := h1 l e
    dsimp only; omega
  obtain ⟨v1, v2, ks⟩ := v4
  obtain ⟨rfl, rfl, hk⟩ := h4
  dsimp only at hi hn hx hk ⊢
  have hm := hx _ (getD_memE (d := Df766161) (show v1.toNat < v2.2.2.length by omega))
  refine tG (dt hi) (tI ?_)
  generalize v2.2.2.getD v1.toNat Df766161 = x at hm ⊢
  obtain ⟨m1, m2, m3⟩ := hm
  refine tBT (o196_t ks _ hk) fun v6 => tC (fun _ => tS fun h => by cases h) fun _ => ?_
  refine tJ (P := fun v => v = (v2, x)) ?_ fun v11 h11 => ?_
  · refine tC (fun hc => ?_) fun _ => tGo rfl
    have hc := dT hc
    rw [wr64 (by omega)]
    refine tG (dt (by omega)) (tI (tBT (o196_t ks _ hk) fun v8 => ?_))
    refine tB (P := fun v => v.2.1 = v2 ∧ v.2.2.1 = x) ?_ fun v9 h9 => tC (fun _ => tDn (tS fun h => by cases h)) fun _ => ?_
    · exact tC (fun _ => tS ⟨rfl, rfl⟩) fun _ => tC (fun _ => tS ⟨rfl, rfl⟩) fun _ => tS ⟨rfl, rfl⟩
    · refine tB (P := fun v => v.2 = (v2, x)) ?_ fun v10 h10 => tC (fun _ => tDn (tS fun h => by cases h)) fun _ => tGo h10
      rw [h9.1, h9.2]
      exact tC (fun _ => tS rfl) fun _ => tS rfl
  subst h11
  refine tB (P := fun v => v.2 = (v2, x)) ?_ fun v12 h12 => ?_
  · exact tC (fun _ => tS rfl) fun _ => tS rfl
  obtain ⟨b, v12⟩ := v12
  obtain rfl : v12 = (v2, x) := h12
  dsimp only
  refine tB (P := fun v => v.2 = (v2, x) ∧ (v.1 = false → x.2.1.length ≤ 8)) ?_ fun v14 h14 => ?_
  · have key : Tot (fun v : Bool × Ty83d737 × Part_ => v.2 = (v2, x) ∧ (v.1 = false → x.2.1.length ≤ 8)) (some ((!(x.2.1 == ([] : List UInt8))), (v2, x))) := tS ⟨rfl, fun h => by
      have h : (x.2.1 == ([] : List UInt8)) = true := notF h
      rw [sT h]; decide⟩
    refine tC (fun hb => ?_) fun hb => ?_
    · refine tB (o130_t _ 8 m1) fun v13 h13 => tC (fun _ => tS ⟨rfl, fun h => by cases h⟩) fun h => ?_
      have h13 := h13 (notF h)
      exact tC (fun _ => key) fun _ => tS ⟨rfl, fun _ => by omega⟩
    · exact tC (fun _ => key) fun h => by rw [hb] at h; cases h
  obtain ⟨b2, v14⟩ := v14
  obtain ⟨e14, h8⟩ := h14
  obtain rfl : v14 = (v2, x) := e14
  refine tC (fun _ => tS fun h => by cases h) fun hb => ?_
  have h8 := h8 hb
  refine tC (fun _ => tS fun h => by cases h) fun _ => tC (fun _ => tS fun h => by cases h) fun _ => ?_
  dsimp only
  refine tL (fun t => t.2.2 = (v2, x) ∧ t.1.1 = x.2.2 ∧ t.1.2 = (x.2.2.length : Int) ∧ 0 ≤ t.2.1 ∧ t.2.1 ≤ ((x.2.2.length : Nat) : Int) ∧ ∀ j : Nat, (j : Int) < t.2.1 → gL (x.2.2.getD j Df6c39f5)) (fun t => Int.toNat (((x.2.2.length : Nat) : Int) - t.2.1)) ?_ ⟨rfl, rfl, rfl, Int.le_refl _, by simp, fun j hj => absurd hj (by dsimp only; omega)⟩ (by dsimp only; omega)
  rintro ⟨⟨t1, t2⟩, t3, t4⟩ ⟨e1, e2, e3, g3, g4, g5⟩
  dsimp only at e1 e2 e3 g3 g4 g5 ⊢
  subst e1; subst e2; subst e3
  dsimp only
  refine tC (fun hc => ?_) fun hc => tDn (tS fun _ => ?_)
  · have hc := dT hc
    have hl := m3 _ (getD_memE (d := Df6c39f5) (show t3.toNat < x.2.2.length by omega))
    refine tG (dt (by omega)) (tI ?_)
    refine tB (o126_t _ hl.1 hl.2) fun v18 h18 => tC (fun h => tDn (tS fun e => absurd e (nT h))) fun h => ?_
    have h18 := h18 (nF h)
    refine tB (P := fun v => v.1 = (x.2.2, (x.2.2.length : Int), t3) ∧ v.2.2 = (v2, x)) ?_ fun v29 h29 => ?_
    · have key : Tot (fun v : (List Leg_ × Int × Int) × Bool × Ty83d737 × Part_ => v.1 = (x.2.2, (x.2.2.length : Int), t3) ∧ v.2.2 = (v2, x)) (some ((x.2.2, (x.2.2.length : Int), t3), false, (v2, x))) := tS ⟨rfl, rfl⟩
      have hp : ∀ {γ : Type} {Q : γ → Prop} {y z : Option γ}, (t3 > 0 → Tot Q (gd (decide ((0 : Int) ≤ (IntKind.wrap .i64 (t3 - 1)) ∧ (IntKind.wrap .i64 (t3 - 1)) < ((x.2.2.length : Nat) : Int))) y)) → Tot Q z → Tot Q (cnd (decide (t3 > 0)) (gd (decide ((0 : Int) ≤ (IntKind.wrap .i64 (t3 - 1)) ∧ (IntKind.wrap .i64 (t3 - 1)) < ((x.2.2.length : Nat) : Int))) y) z) := fun h1 h2 => tC (fun h => h1 (dT h)) fun _ => h2
      refine tC (fun _ => ?_) fun _ => ?_
      · refine tBT (o197_t _ _ _) fun v24 => tC (fun _ => tS ⟨rfl, rfl⟩) fun _ => hp (fun h => tG (dt (by rw [wr64 (by omega)]; omega)) (tI (tBT (o198_t _ _) fun _ => tS ⟨rfl, rfl⟩))) key
      · exact hp (fun h => tG (dt (by rw [wr64 (by omega)]; omega)) (tI (tBT (o198_t _ _) fun _ => tS ⟨rfl, rfl⟩))) key
    · obtain ⟨w1, w2, w3⟩ := v29
      obtain ⟨rfl, rfl⟩ : w1 = (x.2.2, (x.2.2.length : Int), t3) ∧ w3 = (v2, x) := h29
      refine tC (fun _ => tDn (tS fun h => by cases h)) fun _ => tGo ?_
      dsimp only
      rw [wr64 (by omega)]
      exact ⟨⟨rfl, rfl, rfl, by omega, by omega, ix_succ (Q := gL) g3 g5 h18⟩, by omega⟩
  · have hc := dF hc
    exact ⟨h8, all_ix (Q := gL) fun j hj => g5 j (by omega)⟩
theorem o145_t (l : List Leg_) (hl : l.length ≤ 1000) : Tot (fun _ => True) (o145 l) := by
  unfold o145
  rw [nlO_eq (fun h => by rw [List.isEmpty_iff.1 h]; rfl)]
  exact tG (dt (by simp only [List.length_nil]; omega)) (tS trivial)
theorem o138_t (a : Ty83d737) (k : Int) (s : List UInt8) (h : inQ a) : Tot (fun _ => True) (o138 a k s) := by
  obtain ⟨_, hn, hx⟩ := h
  unfold o138
  refine tL (fun t => t.1.2.2 = a.2.2 ∧ t.2.1 = (a.2.2.length : Int) ∧ 0 ≤ t.2.2.1 ∧ t.2.2.1 ≤ ((a.2.2.length : Nat) : Int)) (fun t => Int.toNat (((a.2.2.length : Nat) : Int) - t.2.2.1)) ?_ ⟨rfl, rfl, Int.le_refl _, by simp⟩ (by dsimp only; omega)
  rintro ⟨⟨t1, t2, t3⟩, t4, t5, t6⟩ ⟨e1, e2, h3, h4⟩
  dsimp only at e1 e2 h3 h4 ⊢
  subst e1; subst e2
  refine tC (fun hc => ?_) fun hc => tDn (tS trivial)
  have hc := dT hc
  have hm := hx _ (getD_memE (d := Df766161) (show t5.toNat < a.2.2.length by omega))
  refine tG (dt (by omega)) (tI ?_)
  generalize a.2.2.getD t5.toNat Df766161 = x at hm ⊢
  refine tB (P := fun v => v.1.1.1 = t1 ∧ v.1.1.2 = t2 ∧ v.1.2.1 = a.2.2 ∧ v.1.2.2 = (a.2.2.length : Int) ∧ v.2.1.1 = t5 ∧ v.2.2.2 = x) ?_ fun v4 k4 => ?_
  · exact tC (fun _ => tS ⟨rfl, rfl, rfl, rfl, rfl, rfl⟩) fun _ => tS ⟨rfl, rfl, rfl, rfl, rfl, rfl⟩
  · obtain ⟨k1, k2, k3, k4, k5, k6⟩ := k4
    refine tC (fun _ => ?_) fun _ => tGo ?_
    · rw [k6]
      exact tBT (o145_t _ hm.2.1) fun _ => tDn (tS trivial)
    · rw [k5, wr64 (by omega)]
      exact ⟨⟨k3, k4, by dsimp only; omega, by dsimp only; omega⟩, by dsimp only; omega⟩
theorem o71_t (a : Ty83d737) (h : inQ a) : Tot (fun r => r = 0 → (a.1.1.length ≤ 6 ∧ a.1.2.length ≤ 8) ∧ ∀ x ∈ a.2.2, gX x) (o71 a) := by
  unfold o71
  refine tB (P := fun v => v.2 = a ∧ (v.1 = false → a.1.1.length ≤ 6 ∧ a.1.2.length ≤ 8)) ?_ fun v3 h3 => ?_
  · refine tB (o130_t _ 6 h.1.1) fun v1 h1 => tC (fun _ => tS ⟨rfl, fun h => by cases h⟩) fun h0 => ?_
    have h1 := h1 (notF h0)
    refine tB (o130_t _ 8 h.1.2) fun v2 h2 => tS ⟨rfl, fun h => ?_⟩
    have h2 := h2 (notF h)
    omega
  obtain ⟨b, v3⟩ := v3
  obtain ⟨e3, h3⟩ := h3
  obtain rfl : v3 = a := e3
  refine tC (fun _ => tS fun h => by cases h) fun hb => ?_
  have h3 := h3 hb
  refine tB (P := fun v => v.2 = v3) ?_ fun v7 h7 => ?_
  · refine tB (o136_t _) fun v4 h4 => tM (x := none) (fun _ _ => tS rfl) fun l e => tG (dt ?_) (tS rfl)
    have := h4 l e
    omega
  obtain ⟨b7, v7⟩ := v7
  obtain rfl : v7 = v3 := h7
  refine tC (fun _ => tS fun h => by cases h) fun _ => tC (fun _ => tS fun h => by cases h) fun _ => ?_
  dsimp only
  have hn := h.2.1
  refine tL (fun t => t.2.2 = v7 ∧ t.1 = (v7.2.2.length : Int) ∧ 0 ≤ t.2.1 ∧ t.2.1 ≤ ((v7.2.2.length : Nat) : Int) ∧ ∀ j : Nat, (j : Int) < t.2.1 → gX (v7.2.2.getD j Df766161)) (fun t => Int.toNat (((v7.2.2.length : Nat) : Int) - t.2.1)) ?_ ⟨rfl, rfl, Int.le_refl _, by simp, fun j hj => absurd hj (by dsimp only; omega)⟩ (by dsimp only; omega)
  rintro ⟨t1, t2, t3⟩ ⟨e1, e2, g3, g4, g5⟩
  dsimp only at e1 e2 g3 g4 g5 ⊢
  subst e1; subst e2
  refine tC (fun hc => ?_) fun hc => tDn ?_
  · have hc := dT hc
    refine tB (o137_t t3 t2 h ⟨g3, hc⟩) fun v10 k10 => tC (fun h => tDn (tS fun e => absurd e (nT h))) fun h0 => tGo ?_
    rw [wr64 (by omega)]
    exact ⟨⟨rfl, rfl, by dsimp only; omega, by dsimp only; omega, ix_succ (Q := gX) g3 g5 (k10 (nF h0))⟩, by dsimp only; omega⟩
  · have hc := dF hc
    refine tW (R := fun _ => True) ?_ fun _ _ _ => ⟨h3, all_ix (Q := gX) fun j hj => g5 j (by omega)⟩
    refine tC (fun _ => tS trivial) fun _ => tBT (o138_t t3 _ _ h) fun v11 => ?_
    repeat' (first | exact tS trivial | refine tC (fun _ => ?_) (fun _ => ?_) | refine tBT ?_ (fun _ => ?_))
theorem o110_t (l : List Int) (hl : l.length ≤ 1000) : Tot (fun _ => True) (o110 l) := by
  unfold o110
  refine tL (fun t => t.1 = l ∧ t.2.1 = (l.length : Int) ∧ 0 ≤ t.2.2 ∧ t.2.2 ≤ ((l.length : Nat) : Int)) (fun t => Int.toNat (((l.length : Nat) : Int) - t.2.2)) ?_ ⟨rfl, rfl, Int.le_refl _, by simp⟩ (by dsimp only; omega)
  rintro ⟨t1, t3, t4⟩ ⟨e1, e2, h3, h4⟩
  dsimp only at e1 e2 h3 h4 ⊢
  subst e1; subst e2
  refine tC (fun hc => ?_) fun hc => tDn (tS trivial)
  have hc := dT hc
  refine tG (dt (by omega)) (tC (fun _ => tDn (tS trivial)) fun _ => tGo ?_)
  rw [wr64 (by omega)]
  exact ⟨⟨rfl, rfl, by dsimp only; omega, by dsimp only; omega⟩, by dsimp only; omega⟩
theorem o174_t (a b : List UInt8) : Tot (fun _ => True) (o174 a b) := ⟨_, rfl, trivial⟩
theorem o50_t (a b : Ty83d737) : Tot (fun _ => True) (o50 a b) := by
  unfold o50
  refine tBT ?_ fun v5 => tBT ?_ fun v6 => tBT ?_ fun v7 => tBT (o110_t _ (by simp)) fun _ => tS trivial
  · unfold o111; exact tBT (o174_t _ _) fun _ => tS trivial
  · unfold o112
    refine tBT ⟨_, rfl, trivial⟩ fun v1 => tBT ⟨_, rfl, trivial⟩ fun v2 => ?_
    repeat' (first | exact tS trivial | refine tC (fun _ => ?_) (fun _ => ?_))
  · unfold o111; exact tBT (o174_t _ _) fun _ => tS trivial
theorem o72_t (a : Ty83d737) (x : Part_) (m n k : List (List UInt8 × Bool)) (h1 : P47 x.2.1) (h2 : P47 a.1.1) : Tot (fun v => v.1.2 = m ∧ v.2 = (n, k)) (o72 a x m n k) := by
  unfold o72
  unfold P47 at h1 h2
  refine tB (P := fun v => v.1.2 = m ∧ v.2 = (n, k)) ?_ fun v1 h => ?_
  · exact tC (fun _ => tG (dt (by simp only [List.length_cons, List.length_nil]; omega)) (tG (dt (by simp only [List.length_append, List.length_cons, List.length_nil]; omega)) (tS ⟨rfl, rfl⟩))) fun _ => tS ⟨rfl, rfl⟩
  · exact tC (fun _ => tS h) fun _ => tS h
theorem o139_t (s : List UInt8) (m n k : List (List UInt8 × Bool)) : Tot (fun _ => True) (o139 s m n k) := by
  unfold o139
  repeat' (first | exact tS trivial | refine tC (fun _ => ?_) (fun _ => ?_) | refine tBT ?_ (fun _ => ?_))
theorem o73_t (a : Ty22ecb9) (m n k : List (List UInt8 × Bool)) : Tot (fun _ => True) (o73 a m n k) := by
  unfold o73
  repeat' (first | exact tS trivial | exact o139_t _ _ _ _ | refine tC (fun _ => ?_) (fun _ => ?_) | refine tBT ?_ (fun _ => ?_))
def gF (f : Fix_) : Prop := f.1.length ≤ 6 ∧ f.2.1.length ≤ 6
def goodDB (x : DB_) : Prop := (x.1.1.1.length ≤ 8 ∧ cycOk x.1.1.2 x.1.2.1 x.1.2.2) ∧ (∀ f ∈ x.2.2.1, gF f) ∧ (∀ a ∈ x.2.2.2.1, gA a) ∧ ∀ p ∈ x.2.2.2.2, gP p
def inDB (x : DB_) : Prop := P47 x.1.1.1 ∧ (x.2.2.1.length ≤ 1000000 ∧ ∀ f ∈ x.2.2.1, inF f) ∧ (x.2.2.2.1.length ≤ 1000000 ∧ ∀ a ∈ x.2.2.2.1, inA a) ∧ (x.2.2.2.2.length ≤ 1000000 ∧ ∀ p ∈ x.2.2.2.2, inP p)
theorem o26v1_t (x : DB_) (h : inDB x) : Tot (fun e => e = 0 → goodDB x) (o26v1 x) := by
  obtain ⟨hN, ⟨hF, hF2⟩, ⟨hA, hA2⟩, ⟨hP, hP2⟩⟩ := h
  unfold o26v1
  refine tB (o63_t _ hN) fun v1 h1 => tC (fun h => tS fun e => absurd e (nT h)) fun h => ?_
  have hH := h1 (nF h)
  dsimp only at hH
  refine tB (P := fun v => v.2 = x) ?_ fun v2 e2 => ?_
  · exact tC (fun _ => tS rfl) fun _ => tC (fun _ => tS rfl) fun _ => tS rfl
  obtain ⟨b, v2⟩ := v2
  obtain rfl : v2 = x := e2
  refine tC (fun _ => tS fun h => by cases h) fun _ => ?_
  dsimp only
  refine tBT (o64v1_t _ hF hF2) fun v3 => tBT (o64v1_t _ (by simp) (fun f hf => by cases hf)) fun v4 => ?_
  refine tL (fun t => t.1.1.1 = v2.2.2.1 ∧ t.1.1.2 = ((v2.2.2.1.length : Nat) : Int) ∧ t.1.2.2.1 = v2 ∧ 0 ≤ t.1.2.1 ∧ t.1.2.1 ≤ ((v2.2.2.1.length : Nat) : Int) ∧ ∀ j : Nat, (j : Int) < t.1.2.1 → gF (v2.2.2.1.getD j Df60bb56)) (fun t => Int.toNat (((v2.2.2.1.length : Nat) : Int) - t.1.2.1)) ?_ ⟨rfl, rfl, rfl, Int.le_refl _, by simp, fun j hj => absurd hj (by dsimp only; omega)⟩ (by dsimp only; omega)
  rintro ⟨⟨⟨t1, t2⟩, t3, t4, t5⟩, t6, t7⟩ ⟨e1, e2, e4, g3, g4, g5⟩
  dsimp only at e1 e2 e4 g3 g4 g5 ⊢
  subst e1; subst e2; subst e4
  refine tC (fun hc => ?_) fun hc => tDn ?_
  · have hc := dT hc
    have hm := hF2 _ (getD_memE (d := Df60bb56) (show t3.toNat < t4.2.2.1.length by omega))
    refine tG (dt (by omega)) (tI ?_)
    refine tB (o65_t _ hm.1 hm.2) fun v8 h8 => tC (fun h => tDn (tS fun e => absurd e (nT h))) fun h => ?_
    have h8 := h8 (nF h)
    refine tJ (P := fun v => v.1.1 = (t4.2.2.1, ((t4.2.2.1.length : Nat) : Int)) ∧ v.1.2.1 = t3 ∧ v.1.2.2.1 = t4 ∧ P47 v.1.2.2.2.1.1 ∧ P47 v.1.2.2.2.1.2.1) ?_ fun v19 h19 => ?_
    · refine tC (fun hp => ?_) fun _ => tGo ⟨rfl, rfl, rfl, hm.1, hm.2⟩
      have hp := dT hp
      refine tBT (o67_t _ hm.1 hm.2) fun v14 => ?_
      rw [wr64 (x := t3 - 1) (by omega)]
      have hq := hF2 _ (getD_memE (d := Df60bb56) (show (t3 - 1).toNat < t4.2.2.1.length by omega))
      refine tG (dt (by omega)) (tI (tBT (o67_t _ hq.1 hq.2) fun v16 => tBT (o48_t _ _) fun v17 => tBT (o66_t _) fun v18 => ?_))
      exact tC (fun h => tDn (tDn (tS fun e => absurd e (nT h)))) fun _ => tGo ⟨rfl, rfl, rfl, hm.1, hm.2⟩
    · obtain ⟨k1, k2, k3, k4, k5⟩ := h19
      refine tBT (o68_t _ _ _ _ _ _ _ _) fun v20 => tC (fun h => tDn (tS fun e => absurd e (nT h))) fun _ => ?_
      refine tBT (o69_t _ k4 k5 _ _ _) fun v21 => tGo ?_
      rw [k1, k2, k3, wr64 (x := t3 + 1) (by omega)]
      exact ⟨⟨rfl, rfl, rfl, by dsimp only; omega, by dsimp only; omega, ix_succ (Q := gF) g3 g5 h8⟩, by dsimp only; omega⟩
  have hc := dF hc
  have hFx : ∀ f ∈ t4.2.2.1, gF f := all_ix (Q := gF) fun j hj => g5 j (by omega)
  clear g3 g4 g5 hc
  -- airways
  refine tL (fun t => t.1.1 = t4.2.2.2.1 ∧ t.1.2.1 = ((t4.2.2.2.1.length : Nat) : Int) ∧ t.2.1.1 = t4 ∧ 0 ≤ t.1.2.2 ∧ t.1.2.2 ≤ ((t4.2.2.2.1.length : Nat) : Int) ∧ ∀ j : Nat, (j : Int) < t.1.2.2 → gA (t4.2.2.2.1.getD j Df620925)) (fun t => Int.toNat (((t4.2.2.2.1.length : Nat) : Int) - t.1.2.2)) ?_ ⟨rfl, rfl, rfl, Int.le_refl _, by simp, fun j hj => absurd hj (by dsimp only; omega)⟩ (by dsimp only; omega)
  rintro ⟨⟨t1, t2, t3⟩, ⟨u4, t5⟩, t6⟩ ⟨e1, e2, e4, g3, g4, g5⟩
  dsimp only at e1 e2 e4 g3 g4 g5 ⊢
  subst e1; subst e2; subst e4
  refine tC (fun hc => ?_) fun hc => tDn ?_
  · have hc := dT hc
    have hm := hA2 _ (getD_memE (d := Df620925) (show t3.toNat < u4.2.2.2.1.length by omega))
    refine tG (dt (by omega)) (tI ?_)
    refine tB (o70_t _ hm) fun v25 h25 => tC (fun h => tDn (tS fun e => absurd e (nT h))) fun h => ?_
    have k25 := h25 (nF h)
    clear h25
    generalize hg : u4.2.2.2.1.getD t3.toNat Df620925 = a at hm k25 ⊢
    refine tJ (P := fun v => v.1.1.1 = u4.2.2.2.1 ∧ v.1.1.2 = ((u4.2.2.2.1.length : Nat) : Int) ∧ v.1.2.1 = t3 ∧ v.1.2.2 = u4 ∧ v.2.1.1 = a) ?_ fun v30 h30 => ?_
    · refine tC (fun hp => ?_) fun _ => tGo ⟨rfl, rfl, rfl, rfl, rfl⟩
      have hp := dT hp
      rw [wr64 (x := t3 - 1) (by omega)]
      refine tG (dt (by omega)) (tBT (o48_t _ _) fun v17 => tBT (o66_t _) fun v18 => ?_)
      exact tC (fun h => tDn (tDn (tS fun e => absurd e (nT h)))) fun _ => tGo ⟨rfl, rfl, rfl, rfl, rfl⟩
    · obtain ⟨⟨⟨w1, w2⟩, w3, w4⟩, ⟨w5, w6⟩, w7⟩ := v30
      dsimp only at h30 ⊢
      obtain ⟨rfl, rfl, rfl, rfl, rfl⟩ := h30
      refine tL (fun t => t.1.1.1 = w4.2.2.2.1 ∧ t.1.1.2 = ((w4.2.2.2.1.length : Nat) : Int) ∧ t.1.2.1 = w3 ∧ t.1.2.2.1 = w5.2 ∧ t.1.2.2.2 = ((w5.2.length : Nat) : Int) ∧ t.2.1.2 = w4 ∧ 0 ≤ t.2.1.1 ∧ t.2.1.1 ≤ ((w5.2.length : Nat) : Int)) (fun t => Int.toNat (((w5.2.length : Nat) : Int) - t.2.1.1)) ?_ ⟨rfl, rfl, rfl, rfl, rfl, rfl, Int.le_refl _, by simp⟩ (by have := hm.2.1; dsimp only; omega)
      rintro ⟨⟨⟨y1, y2⟩, y3, y4, y5⟩, ⟨y6, y7⟩, y8⟩ ⟨e1, e2, e3, e4, e5, e7, k3, k4⟩
      dsimp only at e1 e2 e3 e4 e5 e7 k3 k4 ⊢
      subst e1; subst e2; subst e3; subst e4; subst e5; subst e7
      have hl := hm.2.1
      refine tC (fun hc => ?_) fun hc => tDn (tGo ?_)
      · have hc := dT hc
        refine tG (dt (by omega)) (tI (tC (fun _ => tDn (tDn (tS fun h => by cases h))) fun _ => tGo ?_))
        rw [wr64 (x := y6 + 1) (by omega)]
        exact ⟨⟨rfl, rfl, rfl, rfl, rfl, rfl, by dsimp only; omega, by dsimp only; omega⟩, by dsimp only; omega⟩
      · rw [wr64 (x := y3 + 1) (by omega)]
        refine ⟨⟨rfl, rfl, rfl, by dsimp only; omega, by dsimp only; omega, ix_succ (Q := gA) g3 g5 ?_⟩, by dsimp only; omega⟩
        rw [hg]; exact k25
  have hc := dF hc
  have hAx : ∀ a ∈ u4.2.2.2.1, gA a := all_ix (Q := gA) fun j hj => g5 j (by omega)
  clear g3 g4 g5 hc
  -- procedures
  refine tL (fun t => t.1.1 = u4.2.2.2.2 ∧ t.1.2.1 = ((u4.2.2.2.2.length : Nat) : Int) ∧ t.2.1.1 = u4 ∧ 0 ≤ t.1.2.2 ∧ t.1.2.2 ≤ ((u4.2.2.2.2.length : Nat) : Int) ∧ ∀ j : Nat, (j : Int) < t.1.2.2 → gP (u4.2.2.2.2.getD j Dffc8db7)) (fun t => Int.toNat (((u4.2.2.2.2.length : Nat) : Int) - t.1.2.2)) ?_ ⟨rfl, rfl, rfl, Int.le_refl _, by simp, fun j hj => absurd hj (by dsimp only; omega)⟩ (by dsimp only; omega)
  rintro ⟨⟨t1, t2, t3⟩, ⟨z4, t5⟩, t6⟩ ⟨e1, e2, e4, g3, g4, g5⟩
  dsimp only at e1 e2 e4 g3 g4 g5 ⊢
  subst e1; subst e2; subst e4
  refine tC (fun hc => ?_) fun hc => tDn (tS fun _ => ⟨hH, hFx, hAx, all_ix (Q := gP) fun j hj => g5 j (by have := dF hc; omega)⟩)
  have hc := dT hc
  have hm := hP2 _ (getD_memE (d := Dffc8db7) (show t3.toNat < z4.2.2.2.2.length by omega))
  refine tG (dt (by omega)) (tI ?_)
  generalize hg : z4.2.2.2.2.getD t3.toNat Dffc8db7 = p at hm ⊢
  refine tB (o71_t _ hm) fun v37 h37 => tC (fun h => tDn (tS fun e => absurd e (nT h))) fun h => ?_
  have h37 : gP p := h37 (nF h)
  refine tJ (P := fun v => v.1.1.1 = z4.2.2.2.2 ∧ v.1.1.2 = ((z4.2.2.2.2.length : Nat) : Int) ∧ v.1.2.1 = t3 ∧ v.1.2.2 = z4 ∧ v.2.1.1 = ((p.1, p.2.1), p.2.2)) ?_ fun v44 h44 => ?_
  · refine tC (fun hp => ?_) fun _ => tGo ⟨rfl, rfl, rfl, rfl, rfl⟩
    have hp := dT hp
    rw [wr64 (x := t3 - 1) (by omega)]
    refine tG (dt (by omega)) (tI (tBT (o50_t _ _) fun v17 => tBT (o66_t _) fun v18 => ?_))
    exact tC (fun h => tDn (tDn (tS fun e => absurd e (nT h)))) fun _ => tGo ⟨rfl, rfl, rfl, rfl, rfl⟩
  obtain ⟨⟨⟨w1, w2⟩, w3, w4⟩, ⟨w5, w6⟩, w7⟩ := v44
  dsimp only at h44 ⊢
  obtain ⟨rfl, rfl, rfl, rfl, rfl⟩ := h44
  refine tC (fun _ => tDn (tS fun h => by cases h)) fun _ => ?_
  dsimp only
  have hl := hm.2.1
  refine tL (fun t => t.1.1 = (w4.2.2.2.2, ((w4.2.2.2.2.length : Nat) : Int)) ∧ t.1.2.1 = w3 ∧ t.1.2.2.1 = p.2.2.2 ∧ t.1.2.2.2 = ((p.2.2.2.length : Nat) : Int) ∧ t.2.1.2 = (w4, ((p.1, p.2.1), p.2.2)) ∧ 0 ≤ t.2.1.1 ∧ t.2.1.1 ≤ ((p.2.2.2.length : Nat) : Int)) (fun t => Int.toNat (((p.2.2.2.length : Nat) : Int) - t.2.1.1)) ?_ ⟨rfl, rfl, rfl, rfl, rfl, Int.le_refl _, by simp⟩ (by dsimp only; omega)
  rintro ⟨⟨y1, y3, y4, y5⟩, ⟨y6, y7⟩, y8⟩ ⟨e1, e3, e4, e5, e7, k3, k4⟩
  dsimp only at e1 e3 e4 e5 e7 k3 k4 ⊢
  subst e1; subst e3; subst e4; subst e5; subst e7
  dsimp only
  refine tC (fun hd => ?_) fun hd => tDn ?_
  · have hd := dT hd
    have hx := hm.2.2 _ (getD_memE (d := Df766161) (show y6.toNat < p.2.2.2.length by omega))
    refine tG (dt (by omega)) (tI (tBT (tT (o72_t _ _ _ _ _ hx.1 hm.1.1)) fun v48 => tC (fun h => tDn (tDn (tS fun e => absurd e (nT h)))) fun _ => tGo ?_))
    rw [wr64 (x := y6 + 1) (by omega)]
    exact ⟨⟨rfl, rfl, rfl, rfl, rfl, by dsimp only; omega, by dsimp only; omega⟩, by dsimp only; omega⟩
  clear k3 k4 hd
  refine tL (fun t => t.1.1 = (w4.2.2.2.2, ((w4.2.2.2.2.length : Nat) : Int)) ∧ t.1.2.1 = y3 ∧ t.1.2.2.1 = p.2.2.2 ∧ t.1.2.2.2 = ((p.2.2.2.length : Nat) : Int) ∧ t.2.1.2 = w4 ∧ 0 ≤ t.2.1.1 ∧ t.2.1.1 ≤ ((p.2.2.2.length : Nat) : Int)) (fun t => Int.toNat (((p.2.2.2.length : Nat) : Int) - t.2.1.1)) ?_ ⟨rfl, rfl, rfl, rfl, rfl, Int.le_refl _, by simp⟩ (by dsimp only; omega)
  rintro ⟨⟨q1, q3, q4, q5⟩, ⟨q6, q7⟩, q8⟩ ⟨e1, e3, e4, e5, e7, k3, k4⟩
  dsimp only at e1 e3 e4 e5 e7 k3 k4 ⊢
  subst e1; subst e3; subst e4; subst e5; subst e7
  dsimp only
  refine tC (fun hd => ?_) fun hd => tDn (tGo ?_)
  · have hd := dT hd
    have hx := hm.2.2 _ (getD_memE (d := Df766161) (show q6.toNat < p.2.2.2.length by omega))
    refine tG (dt (by omega)) (tI ?_)
    generalize p.2.2.2.getD q6.toNat Df766161 = x at hx ⊢
    have hlx := hx.2.1
    refine tL (fun t => t.1.1 = (q7.2.2.2.2, ((q7.2.2.2.2.length : Nat) : Int), q3) ∧ t.1.2.1 = p.2.2.2 ∧ t.1.2.2.1 = ((p.2.2.2.length : Nat) : Int) ∧ t.1.2.2.2 = q6 ∧ t.2.1.1 = x.2.2 ∧ t.2.1.2.1 = ((x.2.2.length : Nat) : Int) ∧ t.2.2.1.1 = q7 ∧ 0 ≤ t.2.1.2.2 ∧ t.2.1.2.2 ≤ ((x.2.2.length : Nat) : Int)) (fun t => Int.toNat (((x.2.2.length : Nat) : Int) - t.2.1.2.2)) ?_ ⟨rfl, rfl, rfl, rfl, rfl, rfl, rfl, Int.le_refl _, by simp⟩ (by dsimp only; omega)
    rintro ⟨⟨r1, r2, r3, r4⟩, ⟨r5, r6, r7⟩, ⟨r8, r9⟩, r10⟩ ⟨e1, e2, e3, e4, e5, e6, e8, n3, n4⟩
    dsimp only at e1 e2 e3 e4 e5 e6 e8 n3 n4 ⊢
    subst e1; subst e2; subst e3; subst e4; subst e5; subst e6; subst e8
    dsimp only
    refine tC (fun hd => ?_) fun hd => tDn (tGo ?_)
    · have hd := dT hd
      refine tG (dt (by omega)) (tI (tBT (o73_t _ _ _ _) fun v55 => tC (fun h => tDn (tDn (tDn (tS fun e => absurd e (nT h))))) fun _ => tGo ?_))
      rw [wr64 (x := r7 + 1) (by omega)]
      exact ⟨⟨rfl, rfl, rfl, rfl, rfl, rfl, rfl, by dsimp only; omega, by dsimp only; omega⟩, by dsimp only; omega⟩
    · rw [wr64 (x := r4 + 1) (by omega)]
      exact ⟨⟨rfl, rfl, rfl, rfl, rfl, by dsimp only; omega, by dsimp only; omega⟩, by dsimp only; omega⟩
  · rw [wr64 (x := q3 + 1) (by omega)]
    refine ⟨⟨rfl, rfl, rfl, by dsimp only; omega, by dsimp only; omega, ix_succ (Q := gP) g3 g5 ?_⟩, by dsimp only; omega⟩
    rw [hg]; exact h37
end Go.Proofs.YtpglaekodahcoaaGreatDoor
namespace Go.Proofs.YtpglaekodahcoaaGreatDoor
set_option linter.unusedVariables false
set_option linter.unusedSimpArgs false
set_option maxRecDepth 100000
open Go.RowKit
def rawF (f : Fix_) : Prop := (P47 f.1 ∧ P47 f.2.1) ∧ u8R f.2.2.1 ∧ i64R f.2.2.2.1.1 ∧ i64R f.2.2.2.1.2 ∧ i64R f.2.2.2.2.1 ∧ i64R f.2.2.2.2.2
def rawT (f : Pt_) : Prop := P47 f.1 ∧ i64R f.2.1.1 ∧ i64R f.2.1.2 ∧ u8R f.2.2
def rawA (a : Air_) : Prop := P47 a.1 ∧ a.2.length ≤ 140737488355328 ∧ ∀ x ∈ a.2, rawT x
def rawL (l : Leg_) : Prop := (P47 l.2.1 ∧ P47 l.2.2.1) ∧ u8R l.1 ∧ u8R l.2.2.2.1 ∧ i64R l.2.2.2.2.2.1 ∧ i64R l.2.2.2.2.2.2.1 ∧ i64R l.2.2.2.2.2.2.2.1 ∧ i64R l.2.2.2.2.2.2.2.2.1 ∧ i64R l.2.2.2.2.2.2.2.2.2.1.1 ∧ i64R l.2.2.2.2.2.2.2.2.2.1.2 ∧ i64R l.2.2.2.2.2.2.2.2.2.2.1 ∧ i64R l.2.2.2.2.2.2.2.2.2.2.2
def rawX (x : Part_) : Prop := (P47 x.2.1 ∧ u8R x.1) ∧ x.2.2.length ≤ 140737488355328 ∧ ∀ y ∈ x.2.2, rawL y
def rawR (p : Proc_) : Prop := ((P47 p.1 ∧ P47 p.2.1) ∧ u8R p.2.2.1) ∧ p.2.2.2.length ≤ 140737488355328 ∧ ∀ y ∈ p.2.2.2, rawX y
def rawDB (x : DB_) : Prop := (P47 x.1.1.1 ∧ i64R x.1.1.2 ∧ i64R x.1.2.1 ∧ i64R x.1.2.2 ∧ i64R x.2.1.1 ∧ i64R x.2.1.2) ∧ (x.2.2.1.length ≤ 140737488355328 ∧ ∀ a ∈ x.2.2.1, rawF a) ∧ (x.2.2.2.1.length ≤ 140737488355328 ∧ ∀ a ∈ x.2.2.2.1, rawA a) ∧ (x.2.2.2.2.length ≤ 140737488355328 ∧ ∀ a ∈ x.2.2.2.2, rawR a)
theorem take_le {α : Type} (l : List α) (n : Nat) : (l.take n).length ≤ n := by rw [List.length_take]; omega
def fewT (x : DB_) : Prop := (x.2.2.1.length ≤ 24 ∧ x.2.2.2.1.length ≤ 6 ∧ x.2.2.2.2.length ≤ 4) ∧ (∀ a ∈ x.2.2.2.1, a.2.length ≤ 8) ∧ ∀ p ∈ x.2.2.2.2, p.2.2.2.length ≤ 5 ∧ ∀ y ∈ p.2.2.2, y.2.2.length ≤ 6
theorem few_raw {x : DB_} (h : rawDB x) : rawDB (fewD x) ∧ fewT (fewD x) := by
  obtain ⟨hH, ⟨hF, hF2⟩, ⟨hA, hA2⟩, ⟨hP, hP2⟩⟩ := h
  have a1 : ∀ a ∈ (fewD x).2.2.2.1, rawA a ∧ a.2.length ≤ 8 := fun a ha => by
    obtain ⟨b, hb, rfl⟩ := List.mem_map.1 (show a ∈ (x.2.2.2.1.take 6).map fewA from ha)
    have hr := hA2 b (List.mem_of_mem_take hb)
    have hl := take_le b.2 8
    exact ⟨⟨hr.1, by show (b.2.take 8).length ≤ _; omega, fun y hy => hr.2.2 y (List.mem_of_mem_take hy)⟩, hl⟩
  have x1 : ∀ b : Part_, rawX b → rawX (fewX b) ∧ (fewX b).2.2.length ≤ 6 := fun b hb => by
    have hl := take_le b.2.2 6
    exact ⟨⟨hb.1, by show (b.2.2.take 6).length ≤ _; omega, fun y hy => hb.2.2 y (List.mem_of_mem_take hy)⟩, hl⟩
  have p1 : ∀ a ∈ (fewD x).2.2.2.2, rawR a ∧ a.2.2.2.length ≤ 5 ∧ ∀ y ∈ a.2.2.2, y.2.2.length ≤ 6 := fun a ha => by
    obtain ⟨b, hb, rfl⟩ := List.mem_map.1 (show a ∈ (x.2.2.2.2.take 4).map fewP from ha)
    have hr := hP2 b (List.mem_of_mem_take hb)
    have hl : ((b.2.2.2.take 5).map fewX).length ≤ 5 := by rw [List.length_map]; exact take_le _ _
    have hy : ∀ y ∈ (fewP b).2.2.2, rawX y ∧ y.2.2.length ≤ 6 := fun y hy => by
      obtain ⟨z, hz, rfl⟩ := List.mem_map.1 (show y ∈ (b.2.2.2.take 5).map fewX from hy)
      exact x1 z (hr.2.2 z (List.mem_of_mem_take hz))
    exact ⟨⟨hr.1, by show ((b.2.2.2.take 5).map fewX).length ≤ _; omega, fun y h => (hy y h).1⟩, hl, fun y h => (hy y h).2⟩
  have l1 : (fewD x).2.2.1.length ≤ 24 := take_le _ _
  have l2 : (fewD x).2.2.2.1.length ≤ 6 := by show ((x.2.2.2.1.take 6).map fewA).length ≤ 6; rw [List.length_map]; exact take_le _ _
  have l3 : (fewD x).2.2.2.2.length ≤ 4 := by show ((x.2.2.2.2.take 4).map fewP).length ≤ 4; rw [List.length_map]; exact take_le _ _
  exact ⟨⟨hH, ⟨by omega, fun f hf => hF2 f (List.mem_of_mem_take hf)⟩, ⟨by omega, fun a ha => (a1 a ha).1⟩, ⟨by omega, fun a ha => (p1 a ha).1⟩⟩, ⟨l1, l2, l3⟩, fun a ha => (a1 a ha).2, fun a ha => (p1 a ha).2⟩
theorem raw_in {x : DB_} (h : rawDB x) (k : fewT x) : inDB x := by
  obtain ⟨hH, ⟨hF, hF2⟩, ⟨hA, hA2⟩, ⟨hP, hP2⟩⟩ := h
  obtain ⟨⟨k1, k2, k3⟩, k4, k5⟩ := k
  refine ⟨hH.1, ⟨by omega, fun f hf => (hF2 f hf).1⟩, ⟨by omega, fun a ha => ⟨(hA2 a ha).1, by have := k4 a ha; omega, fun p hp => ((hA2 a ha).2.2 p hp).1⟩⟩, ⟨by omega, fun p hp => ⟨(hP2 p hp).1.1, by have := (k5 p hp).1; omega, fun y hy => ⟨((hP2 p hp).2.2 y hy).1.1, by have := (k5 p hp).2 y hy; omega, fun l hl => (((hP2 p hp).2.2 y hy).2.2 l hl).1⟩⟩⟩⟩
theorem flat_le {α β : Type} (f : α → List β) (c : Nat) : ∀ l : List α, (∀ a ∈ l, (f a).length ≤ c) → (l.flatMap f).length ≤ l.length * c
  | [], _ => by simp
  | a :: l, h => by
    have h1 := h a (List.mem_cons_self ..)
    have h2 := flat_le f c l fun b hb => h b (List.mem_cons_of_mem _ hb)
    rw [List.flatMap_cons, List.length_append, List.length_cons, Nat.add_mul, Nat.one_mul]
    omega
theorem good_ok {x : DB_} (h : rawDB x) (k : fewT x) (g : goodDB x) : okDB x ∧ (imgB x).length ≤ 536870912 := by
  obtain ⟨hH, ⟨hF, hF2⟩, ⟨hA, hA2⟩, ⟨hP, hP2⟩⟩ := h
  obtain ⟨⟨k1, k2, k3⟩, k4, k5⟩ := k
  obtain ⟨gH, gF, gA, gP⟩ := g
  refine ⟨⟨⟨by omega, hH.2⟩, ⟨by omega, fun f hf => ?_⟩, ⟨by omega, fun a ha => ?_⟩, ⟨by omega, fun p hp => ?_⟩⟩, ?_⟩
  · have := gF f hf
    exact ⟨by have := this.1; omega, by have := this.2; omega, (hF2 f hf).2⟩
  · have := gA a ha
    exact ⟨by have := this.1; omega, by have := k4 a ha; omega, fun y hy => ⟨by have := this.2 y hy; omega, ((hA2 a ha).2.2 y hy).2⟩⟩
  · have g1 := gP p hp
    refine ⟨by have := g1.1.1; omega, by have := g1.1.2; omega, (hP2 p hp).1.2, by have := (k5 p hp).1; omega, fun y hy => ?_⟩
    have g2 := g1.2 y hy
    have r2 := (hP2 p hp).2.2 y hy
    refine ⟨r2.1.2, by have := g2.1; omega, by have := (k5 p hp).2 y hy; omega, fun l hl => ?_⟩
    have g3 := g2.2 l hl
    have r3 := r2.2.2 l hl
    exact ⟨r3.2.1, by have := g3.1; omega, by have := g3.2; omega, r3.2.2⟩
  · rw [img_len]
    have f1 := flat_le fxB 47 x.2.2.1 fun f hf => by
      have := gF f hf
      rw [fxB_len]; have h1 := this.1; have h2 := this.2; omega
    have f2 := flat_le awB 300 x.2.2.2.1 fun a ha => by
      have g1 := gA a ha
      have f3 := flat_le ptB 31 a.2 fun p hp => by
        have := g1.2 p hp
        rw [ptB_len]; omega
      rw [aw_len]; have := g1.1; have := k4 a ha; omega
    have f4 := flat_le prB 5000 x.2.2.2.2 fun p hp => by
      have g1 := gP p hp
      have f5 := flat_le paB 700 p.2.2.2 fun y hy => by
        have g2 := g1.2 y hy
        have f6 := flat_le lgB 95 y.2.2 fun l hl => by
          have g3 := g2.2 l hl
          rw [lgB_len]; have := g3.1; have := g3.2; omega
        rw [pa_len]; have := g2.1; have := (k5 p hp).2 y hy; omega
      rw [pr_len]; have := g1.1.1; have := g1.1.2; have := (k5 p hp).1; omega
    have := gH.1
    omega
abbrev HD := (List UInt8 × Int × Int) × (Int × Int) × Int × Bool
def hdS : Option DB_ → HD
  | none => stoN
  | some x => stoD x
def fxS : Option DB_ → List Fix_
  | none => []
  | some x => x.2.2.1
def awS : Option DB_ → List Air_
  | none => []
  | some x => x.2.2.2.1
def prS : Option DB_ → List Proc_
  | none => []
  | some x => x.2.2.2.2
def gS (s : Option DB_) : Ty395ce1 := ((((hdS s).1.1, (hdS s).1.2.1), (hdS s).1.2.2, (hdS s).2.1), ((hdS s).2.2.1, fxS s), awS s, prS s, (hdS s).2.2.2)
def effS (d : Int) : Option DB_ → Bool
  | none => false
  | some x => decide (x.1.2.1 ≤ d) && decide (d < x.1.2.2)
theorem o34_eq (s : Option DB_) (d : Int) : o34 (gS s) d = some (effS d s) := by
  cases s with
  | none => rfl
  | some x =>
    unfold o34
    show bd (cnd true (cnd (decide (x.1.2.1 ≤ d)) (some (decide (d < x.1.2.2))) (some false)) (some false)) (fun v1 => some v1) = some (decide (x.1.2.1 ≤ d) && decide (d < x.1.2.2))
    rw [cndT rfl]
    cases decide (x.1.2.1 ≤ d) <;> rfl
theorem o11v1_eq (a s : Option DB_) (d : Int) : o11v1 d (gS a, gS s) = some (effS d s && !effS d a) := by
  unfold o11v1
  dsimp only
  rw [o34_eq s d]
  cases effS d s with
  | false => rfl
  | true =>
    rw [bdI, cndT rfl, bdS (o34_eq a d)]
    rfl
theorem o12v1_eq {a s : Option DB_} {d : Int} (h : effS d s = true) : o12v1 d (hdS a, hdS s) (fxS a) (awS a) (prS a) (fxS s) (awS s) (prS s) = some (((0, hdS s, hdS a), fxS s, awS s), (prS s, fxS a), awS a, prS a) := by
  unfold o12v1
  cases s with
  | none => cases h
  | some x =>
    refine (cndF rfl).trans ?_
    refine (bdS ((o34_eq (some x) d).trans (congrArg some h))).trans ?_
    exact cndF rfl
def gtS : Option DB_ → (Ty9cb662 × List Fix_) × List Air_ × List Proc_
  | none => ((((([] : List UInt8), 0, 0), (0, 0), 0, 6), []), [], [])
  | some x => ((((x.1.1.1, x.1.1.2, x.1.2.1), (x.1.2.2, x.2.1.1), x.2.1.2, 0), x.2.2.1), x.2.2.2.1, x.2.2.2.2)
def shortS (s : Option DB_) : Prop := ∀ x, s = some x → fewT x
theorem o35_eq {s : Option DB_} (h : shortS s) : o35 (gS s) = some (gtS s) := by
  unfold o35
  cases s with
  | none => exact cndT rfl
  | some x =>
    obtain ⟨⟨h1, h2, h3⟩, h4, h5⟩ := h x rfl
    refine (cndF rfl).trans ?_
    refine (bdS (o75_eq (x := x) (by omega) (by omega) (by omega) (fun y hy => by have := h4 y hy; omega) fun y hy => ⟨by have := (h5 y hy).1; omega, fun z hz => by have := (h5 y hy).2 z hz; omega⟩)).trans ?_
    rfl
theorem o13_eq {a s : Option DB_} (h : shortS a) : o13 (gS a, gS s) = some (gtS a) := by
  unfold o13
  exact (bdS (o35_eq h)).trans rfl
theorem o14v1_eq {a s : Option DB_} (h : shortS s) : o14v1 (gS a, gS s) = some (gtS s) := by
  unfold o14v1
  exact (bdS (o35_eq h)).trans rfl
theorem o16_eq (a s : Option DB_) (d : Int) : o16 d (gS a, gS s) = some (effS d a) := by
  unfold o16
  exact (bdS (o34_eq a d)).trans rfl
theorem o15_t (d : Int) (h : i64R d) : Tot (fun v => v.2.2 = 0 → 26 ≤ d ∧ d ≤ 36524 ∧ o36 (d - (d - 26) % 28) = some v.1.1) (o15 d) := by
  unfold o15
  refine tB (P := fun v : Int × Bool => v.1 = d ∧ (v.2 = false → 26 ≤ d ∧ d ≤ 36524)) ?_ fun v hv => ?_
  · exact tC (fun h => tS ⟨rfl, fun h => by cases h⟩) fun h => tS ⟨rfl, fun h2 => by have h := dF h; have h2 := dF h2; omega⟩
  obtain ⟨v1, v2⟩ := v
  obtain ⟨rfl, h0⟩ := hv
  refine tC (fun h => tS fun h => by cases h) fun h => ?_
  have hd := h0 h
  dsimp only at hd ⊢
  rw [wr64 (x := v1 - 26) (by omega), Int.tmod_eq_emod_of_nonneg (by omega), wr64 (x := v1 - (v1 - 26) % 28) (by omega)]
  obtain ⟨r, e, _⟩ := o36_t (d := v1 - (v1 - 26) % 28) (by omega)
  rw [e]
  exact tS fun _ => ⟨hd.1, hd.2, rfl⟩
structure Img (q : List UInt8) (y : DB_) : Prop where
  few : fewT y
  good : goodDB y
  dec : o24 q = some ((((y.1.1.1, y.1.1.2, y.1.2.1), (y.1.2.2, y.2.1.1), y.2.1.2, 0), y.2.2.1), y.2.2.2.1, y.2.2.2.2)
def cycS : Option DB_ → Option Int
  | none => none
  | some x => some x.1.1.2
theorem o10v2_eq {q : List UInt8} {y : DB_} (h : Img q y) (a s : Option DB_) :
    o10v2 q (hdS a, hdS s) (fxS a) (awS a) (prS a) (fxS s) (awS s) (prS s) = some (cond (cycS a == some y.1.1.2) (((7, hdS a, hdS s), fxS a, awS a), (prS a, fxS s), awS s, prS s) (((0, hdS a, stoD y), fxS a, awS a), (prS a, y.2.2.1), y.2.2.2.1, y.2.2.2.2)) := by
  unfold o10v2
  refine (bdS h.dec).trans ?_
  refine (cndF (show ((0 : Int) != 0) = false from rfl)).trans ?_
  cases a with
  | none => rfl
  | some x =>
    refine (bdS (cndT rfl)).trans ?_
    have e : (cycS (some x) == some y.1.1.2) = (x.1.1.2 == y.1.1.2) := rfl
    rw [e]
    show cnd (x.1.1.2 == y.1.1.2) _ _ = _
    cases x.1.1.2 == y.1.1.2 <;> rfl
theorem one_cyc {x y : DB_} {d : Int} (hx : goodDB x) (hy : goodDB y) (ex : effS d (some x) = true) (ey : effS d (some y) = true) : x.1.1.2 = y.1.1.2 := by
  obtain ⟨_, _, c1, c2, c3⟩ := hx.1.2
  obtain ⟨_, _, k1, k2, k3⟩ := hy.1.2
  have e1 : (decide (x.1.2.1 ≤ d) && decide (d < x.1.2.2)) = true := ex
  have e2 : (decide (y.1.2.1 ≤ d) && decide (d < y.1.2.2)) = true := ey
  rw [Bool.and_eq_true, decide_eq_true_eq, decide_eq_true_eq] at e1 e2
  have : x.1.2.1 = y.1.2.1 := by omega
  rw [this, k3] at c3
  injection c3 with c3
  exact c3.symm
theorem act_num {x : DB_} {d n : Int} (hx : goodDB x) (ex : effS d (some x) = true) (h : o36 (d - (d - 26) % 28) = some n) : n = x.1.1.2 := by
  obtain ⟨_, _, c1, c2, c3⟩ := hx.1.2
  have e1 : (decide (x.1.2.1 ≤ d) && decide (d < x.1.2.2)) = true := ex
  rw [Bool.and_eq_true, decide_eq_true_eq, decide_eq_true_eq] at e1
  have : d - (d - 26) % 28 = x.1.2.1 := by omega
  rw [this, c3] at h
  injection h with h
  exact h.symm
section
variable (days : List Int) (i d : Int) (b : DB_) (q : List UInt8) (a s : Option DB_)
abbrev S10 := (((days, i), b, q, (hdS a, hdS s)), (fxS a, awS a, prS a), fxS s, awS s, prS s)
abbrev W14 (f : Bool) := (((days, i, d), f, b, q), ((hdS a, hdS s), fxS a, awS a), (prS a, fxS s), awS s, prS s)
abbrev W17 (one : Bool) := ((((days, i), d, (gtS a).1.1.2.2.2, (gtS s).1.1.2.2.2), (one, b, q), (hdS a, hdS s), ((gtS a).1.1.1, (gtS a).1.1.2.1.1, (gtS a).1.1.2.1.2, (gtS a).1.1.2.2.1), (gtS s).1.1.1, (gtS s).1.1.2.1.1, (gtS s).1.1.2.1.2, (gtS s).1.1.2.2.1), ((fxS a, awS a, prS a), fxS s, awS s, prS s), ((gtS a).1.2, (gtS a).2), (gtS s).1.2, (gtS s).2)
abbrev W18 (one two : Bool) := ((((days, i), d, (gtS a).1.1.2.2.2), (one, two), b, q, (hdS a, hdS s)), ((((gtS a).1.1.1, (gtS a).1.1.2.1.1, (gtS a).1.1.2.1.2, (gtS a).1.1.2.2.1), fxS a), awS a, prS a, fxS s), (awS s, prS s), (gtS a).1.2, (gtS a).2)
abbrev W22 (f : Bool) := ((((days, i), d, (gtS a).1.1.2.2.2), (f, b), q, (hdS a, hdS s), ((gtS a).1.1.1, (gtS a).1.1.2.1.1, (gtS a).1.1.2.1.2, (gtS a).1.1.2.2.1)), ((fxS a, awS a), prS a, fxS s), (awS s, prS s), (gtS a).1.2, (gtS a).2)
abbrev W27 (f : Bool) := (((days, i, f), b, q, (hdS a, hdS s)), (fxS a, awS a, prS a), fxS s, awS s, prS s)
end
def inv (a s : Option DB_) : Prop := (shortS a ∧ shortS s) ∧ (∀ x, a = some x → goodDB x) ∧ (∀ x, s = some x → goodDB x) ∧ (∀ x y, a = some x → s = some y → x.1.1.2 ≠ y.1.1.2)
theorem inv.swap {a s : Option DB_} (h : inv a s) : inv s a := ⟨⟨h.1.2, h.1.1⟩, h.2.2.1, h.2.1, fun x y e1 e2 => (h.2.2.2 y x e2 e1).symm⟩
theorem inv.noeff {a s : Option DB_} {d : Int} (h : inv a s) (ha : effS d a = true) : effS d s = false := by
  cases a with
  | none => cases ha
  | some x => cases s with
    | none => rfl
    | some y =>
      by_cases e : effS d (some y) = true
      · exact absurd (one_cyc (h.2.1 x rfl) (h.2.2.1 y rfl) ha e) (h.2.2.2 x y rfl rfl)
      · simpa using e
def due (d : Int) (a s : Option DB_) : Bool := effS d s && !effS d a
def act1 (d : Int) (a s : Option DB_) : Option DB_ := cond (due d a s) s a
def sby1 (d : Int) (a s : Option DB_) : Option DB_ := cond (due d a s) a s
theorem inv.step {a s : Option DB_} (h : inv a s) (d : Int) : inv (act1 d a s) (sby1 d a s) := by
  unfold act1 sby1
  cases due d a s with
  | true => exact h.swap
  | false => exact h
theorem inv.two {a s : Option DB_} (h : inv a s) (d : Int) : effS d (sby1 d a s) = false := by
  have hd : due d a s = (effS d s && !effS d a) := rfl
  unfold sby1
  cases hs : effS d s with
  | false =>
    rw [hs] at hd
    rw [hd]
    exact hs
  | true =>
    rw [hs] at hd
    cases ha : effS d a with
    | false => rw [ha] at hd; rw [hd]; exact ha
    | true =>
      have := h.noeff ha
      rw [this] at hs; cases hs
theorem eff_get (s : Option DB_) (d : Int) : ∀ {β : Type} {Q : β → Prop} {F : Bool → β}, Q (F (effS d s)) → Tot Q (cnd ((gtS s).1.1.2.2.2 == 0) (cnd (decide ((gtS s).1.1.1.2.2 ≤ d)) (some (F (decide (d < (gtS s).1.1.2.1.1)))) (some (F false))) (some (F false))) := by
  intro β Q F h
  cases s with
  | none => exact tC (fun e => by cases e) fun _ => tS h
  | some x =>
    refine tC (fun _ => ?_) fun e => by cases e
    have he : effS d (some x) = (decide (x.1.2.1 ≤ d) && decide (d < x.1.2.2)) := rfl
    refine tC (fun e => tS ?_) fun e => tS ?_
    · have e : decide (x.1.2.1 ≤ d) = true := e
      rw [he, e, Bool.true_and] at h
      exact h
    · have e : decide (x.1.2.1 ≤ d) = false := e
      rw [he, e, Bool.false_and] at h
      exact h
theorem load_t {q : List UInt8} {y : DB_} (hq : Img q y) {a s : Option DB_} (h : inv a s) : ∃ s', inv a s' ∧ ((o10v2 q (hdS a, hdS s) (fxS a) (awS a) (prS a) (fxS s) (awS s) (prS s) = some (((0, hdS a, hdS s'), fxS a, awS a), (prS a, fxS s'), awS s', prS s')) ∨
    (o10v2 q (hdS a, hdS s) (fxS a) (awS a) (prS a) (fxS s) (awS s) (prS s) = some (((7, hdS a, hdS s'), fxS a, awS a), (prS a, fxS s'), awS s', prS s') ∧ ∃ x, a = some x ∧ x.1.1.2 = y.1.1.2)) := by
  have e := o10v2_eq hq a s
  cases hc : (cycS a == some y.1.1.2) with
  | true =>
    rw [hc] at e
    refine ⟨s, h, .inr ⟨e, ?_⟩⟩
    cases a with
    | none => cases hc
    | some x => exact ⟨x, rfl, by simpa [cycS] using hc⟩
  | false =>
    rw [hc] at e
    refine ⟨some y, ⟨⟨h.1.1, fun x ex => ?_⟩, h.2.1, fun x ex => ?_, fun x z e1 e2 => ?_⟩, .inl e⟩
    · injection ex with ex; subst ex; exact hq.few
    · injection ex with ex; subst ex; exact hq.good
    · injection e2 with e2; subst e2; subst e1
      have : x.1.1.2 ≠ y.1.1.2 := by simpa [cycS] using hc
      exact this
theorem enc_t {a : DB_} (h : rawDB a) : Tot (fun v => v.1 = 0 → Img v.2 (fewD a) ∧ o10 v.2 (stoN, stoN) = some ((0, stoN, stoD (fewD a)), (fewD a).2.2.1, (fewD a).2.2.2.1, (fewD a).2.2.2.2)) (o7v1 (fewD a)) := by
  obtain ⟨r1, t1⟩ := few_raw h
  obtain ⟨e, he, hg⟩ := o26v1_t _ (raw_in r1 t1)
  by_cases e0 : e = 0
  · subst e0
    obtain ⟨hx, hlen⟩ := good_ok r1 t1 (hg rfl)
    exact ⟨_, o7v1_eq _ he (by omega), fun _ => ⟨⟨t1, hg rfl, o24_eq hx (by omega) he⟩, o10_eq hx (by omega) he⟩⟩
  · exact ⟨_, o7v1_err he e0, fun h => absurd h e0⟩
theorem few_8 {a : DB_} (h : rawDB a) : o8 a = some (((((fewD a).1.1.1, (fewD a).1.1.2, (fewD a).1.2.1), (fewD a).1.2.2, (fewD a).2.1.1, (fewD a).2.1.2), (fewD a).2.2.1), (fewD a).2.2.2.1, (fewD a).2.2.2.2) :=
  o8_eq a (by exact h.2.1.1) (by exact h.2.2.1.1) (by exact h.2.2.2.1) (fun y hy => (h.2.2.1.2 y hy).2.1) (fun y hy => ⟨(h.2.2.2.2 y hy).2.1, fun z hz => ((h.2.2.2.2 y hy).2.2 z hz).2.1⟩)
theorem active_plain {A B : DB_} (hA : rawDB A) (hB : rawDB B) {days : List Int} (hl : days.length ≤ 140737488355328) (hn : ∀ x ∈ days, i64R x) : Tot (fun r => r = true) (o3 A B days) := by
  unfold o3
  refine tB ⟨_, awake_, rfl⟩ fun v1 e1 => ?_
  subst e1
  refine tC (fun h => by cases h) fun _ => ?_
  refine tB ⟨_, few_8 hA, rfl⟩ fun v2 e2 => ?_
  subst e2
  refine tB (enc_t hA) fun v3 h3 => ?_
  refine tB ⟨_, few_8 hB, rfl⟩ fun v4 e4 => ?_
  subst e4
  refine tB (enc_t hB) fun v5 h5 => ?_
  refine tB (P := fun v => v.1.1 = days ∧ v.2 = (B, v3.2, v5.2) ∧ (v.1.2 = false → v3.1 = 0 ∧ v5.1 = 0)) ?_ fun v6 h6 => ?_
  · exact tC (fun _ => tS ⟨rfl, rfl, fun h => by cases h⟩) fun h => tS ⟨rfl, rfl, fun h2 => ⟨nF h, nF h2⟩⟩
  obtain ⟨⟨w1, w2⟩, w3⟩ := v6
  obtain ⟨e1, e2, h6⟩ := h6
  dsimp only at e1 e2
  subst e1; subst e2
  refine tC (fun _ => tS rfl) fun hw => ?_
  obtain ⟨z3, z5⟩ := h6 hw
  obtain ⟨hx, h10⟩ := h3 z3
  obtain ⟨hy, _⟩ := h5 z5
  clear h3 h5 h6 z3 z5
  generalize hX : fewD A = x at hx h10
  generalize hY : fewD B = y at hy
  have hb : B.1.1.2 = y.1.1.2 := by rw [← hY]; rfl
  generalize v5.2 = q at hy ⊢
  refine tB ⟨_, rfl, rfl⟩ fun v7 e7 => ?_
  subst e7
  refine tB ⟨_, h10, rfl⟩ fun v8 e8 => ?_
  subst e8
  refine tC (fun h => by cases h) fun _ => ?_
  refine tL (fun t => ∃ i a s, 0 ≤ i ∧ i ≤ ((w1.length : Nat) : Int) ∧ inv a s ∧ t = S10 w1 i B q a s) (fun t => Int.toNat (((w1.length : Nat) : Int) - t.1.1.2)) ?_ ?_ (by dsimp only; omega)
  case refine_2 =>
    refine ⟨0, none, some x, Int.le_refl _, by omega, ⟨⟨fun z e => (by cases e), fun z e => (by injection e with e; subst e; exact hx.few)⟩, fun z e => (by cases e), fun z e => (by injection e with e; subst e; exact hx.good), fun z _ e => (by cases e)⟩, rfl⟩
  rintro t ⟨i, a, s, g1, g2, hi, rfl⟩
  dsimp only
  refine tB (P := fun v => v.1.1.1 = w1 ∧ v.1.1.2.1 = i ∧ (v.1.1.2.2 = true → i < w1.length) ∧ v.1.2 = (B, q, (hdS a, hdS s)) ∧ v.2 = ((fxS a, awS a, prS a), fxS s, awS s, prS s)) ?_ fun v11 h11 => ?_
  · exact tC (fun h => tS ⟨rfl, rfl, fun _ => dT h, rfl, rfl⟩) fun _ => tS ⟨rfl, rfl, fun h => (by cases h), rfl, rfl⟩
  obtain ⟨⟨⟨u1, u2, u3⟩, u4⟩, u5⟩ := v11
  obtain ⟨e1, e2, h11, e4, e5⟩ := h11
  dsimp only at e1 e2 h11 e4 e5
  subst e1; subst e2; subst e4; subst e5
  refine tC (fun hc => ?_) fun _ => tDn (tS rfl)
  have hc := h11 hc
  clear h11
  dsimp only
  have hd := hn _ (getD_memE (d := 0) (show u2.toNat < u1.length by omega))
  refine tG (dt (by omega)) ?_
  generalize u1.getD u2.toNat 0 = d at hd ⊢
  refine tB (P := fun v => v = W14 u1 u2 d B q (act1 d a s) (sby1 d a s) false) ?_ fun v14 e14 => ?_
  · refine tB ⟨_, o11v1_eq a s d, rfl⟩ fun v12 e12 => ?_
    subst e12
    refine tC (fun h => ?_) fun h => ?_
    · have hdue : due d a s = true := h
      have hs : effS d s = true := by
        have : (effS d s && !effS d a) = true := h
        rw [Bool.and_eq_true] at this
        exact this.1
      unfold act1 sby1
      rw [hdue]
      refine tB ⟨_, o12v1_eq hs, rfl⟩ fun v13 e13 => ?_
      subst e13
      exact tS rfl
    · have hdue : due d a s = false := h
      unfold act1 sby1
      rw [hdue]
      exact tS rfl
  subst e14
  refine tC (fun h => by cases h) fun _ => ?_
  have hi1 := hi.step d
  have h2 := hi.two d
  generalize act1 d a s = a1 at hi1 ⊢
  generalize sby1 d a s = s1 at hi1 h2 ⊢
  clear hi
  refine tB ⟨_, o13_eq hi1.1.1, rfl⟩ fun v15 e15 => ?_
  subst e15
  refine tB ⟨_, o14v1_eq hi1.1.2, rfl⟩ fun v16 e16 => ?_
  subst e16
  refine tB (P := fun v => v = W17 u1 u2 d B q a1 s1 (effS d a1)) (eff_get a1 d (F := fun one => W17 u1 u2 d B q a1 s1 one) rfl) fun v17 e17 => ?_
  subst e17
  refine tB (P := fun v => v = W18 u1 u2 d B q a1 s1 (effS d a1) (effS d s1)) (eff_get s1 d (F := fun two => W18 u1 u2 d B q a1 s1 (effS d a1) two) rfl) fun v18 e18 => ?_
  subst e18
  refine tB (o15_t d hd) fun v19 h19 => ?_
  refine tB (P := fun v => v = W22 u1 u2 d B q a1 s1 false) ?_ fun v22 e22 => ?_
  · refine tC (fun h => ?_) fun _ => ?_
    · have h : effS d s1 = true := h
      rw [h2] at h; cases h
    refine tB ⟨_, o16_eq a1 s1 d, rfl⟩ fun v20 e20 => ?_
    subst e20
    refine tC (fun h => ?_) fun _ => ?_
    · have h : (!(effS d a1 == effS d a1)) = true := h
      simp at h
    refine tB ⟨_, o11v1_eq a1 s1 d, rfl⟩ fun v21 e21 => ?_
    subst e21
    refine tC (fun h => ?_) fun _ => ?_
    · rw [h2] at h; cases h
    refine tC (fun hone => ?_) fun _ => tS rfl
    refine tC (fun hj => ?_) fun _ => tS rfl
    have hone : effS d a1 = true := hone
    obtain ⟨_, _, hnum⟩ := h19 (eT hj)
    cases a1 with
    | none => cases hone
    | some x1 =>
      have e := act_num (hi1.2.1 x1 rfl) hone hnum
      have : (v19.1.1 != x1.1.1.2) = false := by rw [e]; simp
      exact tS (congrArg (W22 u1 u2 d B q (some x1) s1) this)
  subst e22
  refine tC (fun h => by cases h) fun _ => tC (fun hg => ?_) fun _ => tGo ?_
  · obtain ⟨s2, hi2, h10⟩ := load_t hy hi1
    have key : ∃ e, o10v2 q (hdS a1, hdS s1) (fxS a1) (awS a1) (prS a1) (fxS s1) (awS s1) (prS s1) = some (((e, hdS a1, hdS s2), fxS a1, awS a1), (prS a1, fxS s2), awS s2, prS s2) ∧ (e = 0 ∨ e = 7 ∧ ∃ x, a1 = some x ∧ x.1.1.2 = y.1.1.2) := by
      rcases h10 with h | ⟨h, h'⟩
      · exact ⟨0, h, .inl rfl⟩
      · exact ⟨7, h, .inr ⟨rfl, h'⟩⟩
    obtain ⟨e, h10, he⟩ := key
    refine tB ⟨_, h10, rfl⟩ fun v23 e23 => ?_
    subst e23
    refine tB (P := fun v => v = W14 u1 u2 d B q a1 s2 false) ?_ fun v24 e24 => ?_
    · refine tC (fun h => ?_) fun _ => tS rfl
      refine tC (fun h7 => ?_) fun _ => ?_
      · rcases he with rfl | ⟨rfl, _⟩
        · cases h
        · cases h7
      · rcases he with rfl | ⟨rfl, x1, rfl, ec⟩
        · cases h
        · have : (x1.1.1.2 != B.1.1.2) = false := by rw [ec, hb]; simp
          exact tS (congrArg (W14 u1 u2 d B q (some x1) s2) this)
    subst e24
    refine tC (fun h => by cases h) fun _ => ?_
    refine tB (P := fun v => v = W27 u1 u2 B q (act1 d a1 s2) (sby1 d a1 s2) false) ?_ fun v27 e27 => ?_
    · refine tB ⟨_, o11v1_eq a1 s2 d, rfl⟩ fun v12 e12 => ?_
      subst e12
      refine tC (fun h => ?_) fun h => ?_
      · have hdue : due d a1 s2 = true := h
        have hs : effS d s2 = true := by
          have : (effS d s2 && !effS d a1) = true := h
          rw [Bool.and_eq_true] at this
          exact this.1
        unfold act1 sby1
        rw [hdue]
        refine tB ⟨_, o12v1_eq hs, rfl⟩ fun v13 e13 => ?_
        subst e13
        exact tS rfl
      · have hdue : due d a1 s2 = false := h
        unfold act1 sby1
        rw [hdue]
        exact tS rfl
    subst e27
    refine tC (fun h => by cases h) fun _ => tGo ?_
    dsimp only
    rw [wr64 (x := u2 + 1) (by omega)]
    exact ⟨⟨u2 + 1, _, _, by omega, by omega, hi2.step d, rfl⟩, by omega⟩
  · dsimp only
    rw [wr64 (x := u2 + 1) (by omega)]
    exact ⟨⟨u2 + 1, a1, s1, by omega, by omega, hi1, rfl⟩, by omega⟩
theorem slots_of {g : Gh} {ρ : Env} {bl : List BV} : ∀ {l : List SV} {vs : List Value} (i : Nat), All2 (RealS g ρ bl) l vs → ∀ t sv, getH (argH i l) t = some sv → ∃ v, getS (argS i vs) t = some v ∧ RealS g ρ bl sv v
  | [], [], i, _, t, sv, e => by cases e
  | s :: l, v :: vs, i, h, t, sv, e => by
    have e : cond (Nat.beq i t) (some s) (getH (argH (i + 1) l) t) = some sv := e
    show ∃ u, cond (Nat.beq i t) (some v) (getS (argS (i + 1) vs) t) = some u ∧ _
    cases hb : Nat.beq i t with
    | true => rw [hb] at e; injection e with e; subst e; exact ⟨v, rfl, h.1⟩
    | false => rw [hb] at e; exact slots_of (i + 1) h.2 t sv e
  | [], _ :: _, _, h, _, _, _ => h.elim
  | _ :: _, [], _, h, _, _, _ => h.elim
def r0 : List Sch := [⟨[(0, .v (.c .b))], []⟩]
theorem law_of_fok {P : Program} {f : FuncId} {ps : Sch} {run : HT ps.tr → Option Bool} (h : FOk P f ⟨ps, r0, run⟩) {t : HT ps.tr} (hr : run t = some true) (l : List SV) (hc : conT ps t = some ⟨argH 0 l, []⟩) {W : World} (hW : GI (psiOf W)) {vs : List Value}
    (hv : All2 (RealS (gh0 W) (fun _ => (none, 0)) []) l vs) (hl : vs.length = ps.sl.length) : Calls P f vs.toArray W fun e w' => e = .returned (.bool true) ∧ Below W.heap.size W w' := by
  have hR : Rl (gh0 W) (fun _ => (none, 0)) ⟨argH 0 l, []⟩ [] (argS 0 vs) := ⟨rfl, fun i bv k e => (by cases e), fun t sv e => slots_of 0 hv t sv e, hW⟩
  refine law_of_ctr (P := P) (f := f) (args := vs) ((h t true _ hr hc (gh0 W) _ [] vs hR hl).mono fun v ψ o hle ⟨str, ρ', h1, h2, h3, h4⟩ => ?_)
  have e : altC r0 true = some ⟨[(0, vC (.bool true))], []⟩ := rfl
  have h1 : altC r0 true = some str := h1
  rw [e] at h1
  injection h1 with h1; subst h1
  obtain ⟨u, h5, h6⟩ := h3.slot 0 _ rfl
  injection h5 with h5
  have h6 : u = .bool true := h6
  have hlen : o.length = 0 := h3.len
  exact ⟨List.length_eq_zero_iff.1 hlen, by rw [h5, h6]⟩
section
variable {P : Program} {t : TypeId}
end
open Go.RowKit Go.WideShapes Go.ChangeShapes Go.ChangeAt
def flG {H : Type} (f : DataW H → Option (List Lit)) : List (DataW H) → Option (List Lit)
  | [] => some []
  | d :: r => match f d, flG f r with | some a, some b => some (a ++ b) | _, _ => none
def flD {H : Type} : Nat → DataW H → Option (List Lit)
  | _ + 1, .lit x => some [x]
  | n + 1, .agg l => flG (flD n) l
  | _, _ => none
def litV : Lit → Value
  | .int k n => .int k n
  | .bool b => .bool b
  | .string l => .string (mkS l)
  | _ => undef
def contig (P : Program) : Nat → List Field → Option Nat
  | off, [] => some off
  | off, f :: l => cond (Nat.beq f.offset off) (contig P (off + P.cellsOf f.type) l) none
def okT (P : Program) : Nat → TypeId → Bool
  | 0, _ => false
  | d + 1, t => match P.underlying t with
    | some (.struct fs) => (match contig P 0 fs.toList with | some e => Nat.beq e (P.cellsOf t) | none => false) && fs.toList.all fun f => okT P d f.type
    | some (.array n e) => Nat.beq (n * P.cellsOf e) (P.cellsOf t) && okT P d e
    | some (.int _) => true
    | some .bool => true
    | some .string => true
    | _ => false
section
variable {H : Type} {enc : TypeId × Value → H} {P : Program} {w : World} {base : Nat} {spare : Nat → Bool} {held : Bool}
theorem contig_le : ∀ {l : List Field} {off e : Nat}, contig P off l = some e → off ≤ e
  | [], off, e, h => by injection h with h; omega
  | f :: l, off, e, h => by
    have h : cond (Nat.beq f.offset off) (contig P (off + P.cellsOf f.type) l) none = some e := h
    obtain ⟨_, h⟩ := condS h
    have := contig_le h
    omega
theorem take_two {α : Type} (cs : List α) (off sz e : Nat) (h : off + sz ≤ e) : (cs.drop off).take (e - off) = (cs.drop off).take sz ++ (cs.drop (off + sz)).take (e - (off + sz)) := by
  rw [← List.drop_drop, show e - off = sz + (e - (off + sz)) by omega, List.take_add]
theorem fl_go {n m : Nat} {cs : List Value} (ih : ∀ {t : TypeId} {n : Nat} {cs : List Value} {y : DataW H × List MemPlace} {ls : List Lit}, okT P m t = true → DataW.trod enc P w base spare held n t cs = some y → flD m y.1 = some ls → cs = ls.map litV) :
    ∀ (l : List Field) (ys : List (DataW H × List MemPlace)) (off e : Nat) (ls : List Lit), contig P off l = some e → (l.all fun f => okT P m f.type) = true → (∀ (i : Nat) f, l[i]? = some f → DataW.trod enc P w base spare held n f.type ((cs.drop f.offset).take (P.cellsOf f.type)) = ys[i]?) → ys.length = l.length → flG (flD m) (ys.map (·.1)) = some ls → (cs.drop off).take (e - off) = ls.map litV
  | [], [], off, e, ls, h, _, _, _, h3 => by
    injection h with h; subst h
    have h3 : some [] = some ls := h3
    injection h3 with h3; subst h3
    simp
  | f :: l, y :: ys, off, e, ls, h, h1, h2, hl, h3 => by
    have h : cond (Nat.beq f.offset off) (contig P (off + P.cellsOf f.type) l) none = some e := h
    obtain ⟨ho, h⟩ := condS h
    have ho := Nat.eq_of_beq_eq_true ho
    have hle := contig_le h
    rw [List.all_cons, Bool.and_eq_true] at h1
    have h3 : (match flD m y.1, flG (flD m) (ys.map (·.1)) with | some a, some b => some (a ++ b) | _, _ => none) = some ls := h3
    split at h3
    · rename_i a b ha hb
      injection h3 with h3; subst h3
      have hy := ih h1.1 (h2 0 f rfl) ha
      have hr := fl_go ih l ys _ e b h h1.2 (fun i f hf => h2 (i + 1) f hf) (by simpa using hl) hb
      rw [take_two cs off _ e hle, List.map_append, ← hr, ← ho, ← hy]
    · cases h3
  | [], _ :: _, _, _, _, _, _, _, hl, _ => by cases hl
  | _ :: _, [], _, _, _, _, _, _, hl, _ => by cases hl
theorem fl_arr {n m : Nat} {e : TypeId} {cs : List Value} (he : okT P m e = true) (ih : ∀ {t : TypeId} {n : Nat} {cs : List Value} {y : DataW H × List MemPlace} {ls : List Lit}, okT P m t = true → DataW.trod enc P w base spare held n t cs = some y → flD m y.1 = some ls → cs = ls.map litV) :
    ∀ (k i : Nat) (ys : List (DataW H × List MemPlace)) (ls : List Lit), (∀ (j : Nat), j < k → DataW.trod enc P w base spare held n e ((cs.drop ((i + j) * P.cellsOf e)).take (P.cellsOf e)) = ys[j]?) → ys.length = k → flG (flD m) (ys.map (·.1)) = some ls → (cs.drop (i * P.cellsOf e)).take (k * P.cellsOf e) = ls.map litV
  | 0, i, [], ls, _, _, h3 => by
    have h3 : some [] = some ls := h3
    injection h3 with h3; subst h3
    simp
  | k + 1, i, y :: ys, ls, h2, hl, h3 => by
    have h3 : (match flD m y.1, flG (flD m) (ys.map (·.1)) with | some a, some b => some (a ++ b) | _, _ => none) = some ls := h3
    split at h3
    · rename_i a b ha hb
      injection h3 with h3; subst h3
      have hy := ih he (h2 0 (by omega)) ha
      rw [Nat.add_zero] at hy
      have hr := fl_arr he ih k (i + 1) ys b (fun j hj => by
        have := h2 (j + 1) (by omega)
        rw [show i + (j + 1) = i + 1 + j by omega] at this
        exact this) (by simpa using hl) hb
      have := take_two cs (i * P.cellsOf e) (P.cellsOf e) (i * P.cellsOf e + (k + 1) * P.cellsOf e) (by rw [Nat.succ_mul]; omega)
      rw [Nat.add_sub_cancel_left] at this
      rw [this, List.map_append, ← hr, hy, Nat.succ_mul k, Nat.succ_mul i]
      congr 2
      omega
    · cases h3
  | 0, _, _ :: _, _, _, hl, _ => by cases hl
  | _ + 1, _, [], _, _, hl, _ => by cases hl
theorem flD_ok : ∀ (d : Nat) {t : TypeId} {n : Nat} {cs : List Value} {y : DataW H × List MemPlace} {ls : List Lit}, okT P d t = true → DataW.trod enc P w base spare held n t cs = some y → flD d y.1 = some ls → cs = ls.map litV
  | 0, t, n, cs, y, ls, h, _, _ => by cases h
  | d + 1, t, n, cs, y, ls, h, ht, hl => by
    unfold okT at h
    split at h
    · rename_i fs hu
      rw [Bool.and_eq_true] at h
      obtain ⟨h1, h2⟩ := h
      split at h1
      · rename_i e he
        have h1 := Nat.eq_of_beq_eq_true h1
        obtain ⟨xs, m, _, rfl, hc, hx, hf⟩ := DataW.trod_struct hu ht
        have := fl_go (n := m) (cs := cs) (fun h ht hl => flD_ok d h ht hl) fs.toList xs 0 e ls he h2 (fun i f hi => hf i f (by rw [← Array.getElem?_toList]; exact hi)) (by simpa using hx) hl
        rw [List.drop_zero, Nat.sub_zero, List.take_of_length_le (by omega)] at this
        exact this
      · cases h1
    · rename_i k e hu
      rw [Bool.and_eq_true] at h
      obtain ⟨h1, h2⟩ := h
      have h1 := Nat.eq_of_beq_eq_true h1
      obtain ⟨xs, m, _, rfl, hc, hx, hf⟩ := DataW.trod_array hu ht
      have := fl_arr (n := m) (cs := cs) h2 (fun h ht hl => flD_ok d h ht hl) k 0 xs ls (fun j hj => by rw [Nat.zero_add]; exact hf j hj) hx hl
      rw [Nat.zero_mul, List.drop_zero, List.take_of_length_le (by omega)] at this
      exact this
    · rename_i k hu
      obtain ⟨z, rfl, rfl, _⟩ := DataW.trod_int hu ht
      injection hl with hl; subst hl; rfl
    · rename_i hu
      obtain ⟨z, rfl, rfl⟩ := DataW.trod_bool hu ht
      injection hl with hl; subst hl; rfl
    · rename_i hu
      obtain ⟨z, rfl, rfl, _⟩ := DataW.trod_string hu ht
      injection hl with hl; subst hl
      show [Value.string z] = [Value.string (mkS z.data.toList)]
      simp [mkS]
    · cases h
end
theorem laid_cells {P : Program} {W : World} : ∀ {ds : List (String × DataW Unit)} {ps : List MemPlace}, DataW.LaidVars P W ds ps → ∀ (i : Nat) (nm : String) (d : DataW Unit) (g : Nat) (t : TypeId) (dep : Nat) (ls : List Lit), ds[i]? = some (nm, d) → P.globalNamed nm = some g → (P.globals[g]?).map (·.type) = some t → okT P dep t = true → flD dep d = some ls → Cells (psiOf W) ⟨g, 0, none⟩ (ls.map litV)
  | [], ps, _, i, nm, d, g, t, dep, ls, h1, _, _, _, _ => by cases h1
  | (n, d0) :: ds, ps, h, 0, nm, d, g, t, dep, ls, h1, h3, h4, h5, h6 => by
    obtain ⟨g0, t0, cs0, f0, p0, q0, hg0, ht0, hv0, hd0, _, _⟩ := h
    injection h1 with h1
    injection h1 with h1 h2
    subst h1; subst h2
    obtain rfl := Option.some.inj (h3.symm.trans hg0)
    obtain rfl := Option.some.inj (h4.symm.trans ht0)
    have hcs := flD_ok dep h5 hd0 h6
    intro j v hj
    rw [← hcs] at hj
    rw [addr_add, Nat.zero_add]
    have := World.var?_cell hg0 hv0 j
    have e : W.cell? ⟨g, j, none⟩ = some v := by rw [this]; simpa using hj
    unfold World.cell? at e
    unfold Psi.cell? psiOf
    exact e
  | (n, d0) :: ds, ps, h, i + 1, nm, d, g, t, dep, ls, h1, h3, h4, h5, h6 => by
    obtain ⟨g0, t0, cs0, f0, p0, q0, hg0, ht0, hv0, hd0, hr, _⟩ := h
    exact laid_cells hr i nm d g t dep ls h1 h3 h4 h5 h6
theorem laid_gp {P : Program} {W : World} {ds : List (String × DataW Unit)} {ps : List MemPlace} (h : DataW.LaidVars P W ds ps) (i : Nat) (nm : String) (d : DataW Unit) (g : Nat) (t : TypeId) (dep : Nat) (ls : List Lit) {c : Cd} {x : c.den} {cs : List Value} (h2 : encV c x = some cs) (h1 : ds[i]? = some (nm, d)) (h3 : P.globalNamed nm = some g) (h4 : (P.globals[g]?).map (·.type) = some t) (h5 : okT P dep t = true) (h6 : flD dep d = some ls) (he : encV c x = some (ls.map litV)) : Cells (psiOf W) ⟨g, 0, none⟩ cs := by
  rw [h2] at he
  injection he with he
  rw [he]
  exact laid_cells h i nm d g t dep ls h1 h3 h4 h5 h6
theorem getG_mem : ∀ {l : List (Nat × GDV)} {k : Nat} {d : GDV}, getG l k = some d → (k, d) ∈ l
  | [], k, d, h => by cases h
  | (j, e) :: l, k, d, h => by
    have h : cond (Nat.beq j k) (some e) (getG l k) = some d := h
    cases hb : Nat.beq j k with
    | true =>
      rw [hb] at h; injection h with h; subst h
      rw [Nat.eq_of_beq_eq_true hb]
      exact List.mem_cons_self ..
    | false => rw [hb] at h; exact List.mem_cons_of_mem _ (getG_mem h)
def inC : (c : Cd) → c.den → Prop
  | .i k, x => inK k x
  | .s, x => List.length (α := UInt8) x ≤ 140737488355328
  | .a c, x => List.length (α := c.den) x ≤ 140737488355328 ∧ ∀ y : c.den, List.Mem (α := c.den) y x → inC c y
  | .p c d, x => inC c x.1 ∧ inC d x.2
  | _, _ => True
section
variable {P : Program} {t e : TypeId}
theorem opI7 {k : IntKind} (ht : P.underlying t = some (.int k)) : Opens P t (Cd.ty (.i k)) (inC (.i k)) := fun h hw => by
  obtain ⟨x, h1, h2⟩ := opens_int ht h hw
  exact ⟨x, ⟨h1, h2⟩, h2⟩
theorem opB7 (ht : P.underlying t = some .bool) : Opens P t (Cd.ty .b) (inC .b) := fun h hw => by
  obtain ⟨x, h1, _⟩ := opens_bool ht h hw
  exact ⟨x, h1, trivial⟩
theorem opS7 (ht : P.underlying t = some .string) : Opens P t (Cd.ty .s) (inC .s) := fun h hw => by
  obtain ⟨x, h1, h2⟩ := opens_str ht h hw
  exact ⟨x, ⟨h1, Nat.le_trans h2 (by decide)⟩, h2⟩
theorem opA7 {c : Cd} (m : Nat) (hm : P.bytesOf e = m) (hb0 : Nat.blt 0 m = true) (he : Opens P e (Cd.ty c) (inC c)) (ht : P.underlying t = some (.slice e)) (hc : P.cellsOf e = (Cd.ty c).n) (hb : Nat.blt 0 (P.bytesOf e) = true) : Opens P t (Cd.ty (.a c)) (inC (.a c)) := fun h hw => by
  obtain ⟨x, h1, h2, h3⟩ := opens_sized m hm he ht hc hb h hw
  have h0 : 0 < m := Nat.le_of_ble_eq_true hb0
  have : List.length (α := c.den) x ≤ List.length (α := c.den) x * m := Nat.le_mul_of_pos_right _ h0
  exact ⟨x, h1, Nat.le_trans this (Nat.le_trans h2 (by decide)), fun y hy => h3 y hy⟩
end
theorem k64 {x : Int} (h : inK .i64 x) : i64R x := by simpa [i64R, inK, IntKind.min, IntKind.max, IntKind.signed, IntKind.bits] using h
theorem k8 {x : Int} (h : inK .u8 x) : u8R x := by simpa [u8R, inK, IntKind.min, IntKind.max, IntKind.signed, IntKind.bits] using h
def cFx : Cd := .p .s (.p .s (.p (.i .u8) (.p (.p (.i .i64) (.i .i64)) (.p (.i .i64) (.i .i64)))))
def cPt : Cd := .p .s (.p (.p (.i .i64) (.i .i64)) (.i .u8))
def cAw : Cd := .p .s (.a cPt)
def cLg : Cd := .p (.i .u8) (.p .s (.p .s (.p (.i .u8) (.p .b (.p (.i .i64) (.p (.i .i64) (.p (.i .i64) (.p (.i .i64) (.p (.p (.i .i64) (.i .i64)) (.p (.i .i64) (.i .i64)))))))))))
def cPa : Cd := .p (.i .u8) (.p .s (.a cLg))
def cPr : Cd := .p .s (.p .s (.p (.i .u8) (.a cPa)))
def cDB : Cd := .p (.p .s (.p (.i .i64) (.p (.i .i64) (.p (.i .i64) (.p (.i .i64) (.i .i64)))))) (.p (.a cFx) (.p (.a cAw) (.a cPr)))
abbrev DB0_ := (List UInt8 × Int × Int × Int × Int × Int) × List Fix_ × List Air_ × List Proc_
def grpD (x : DB0_) : DB_ := (((x.1.1, x.1.2.1), x.1.2.2.1, x.1.2.2.2.1), (x.1.2.2.2.2.1, x.1.2.2.2.2.2), x.2.1, x.2.2.1, x.2.2.2)
theorem raw_fx (f : Fix_) (h : inC cFx f) : rawF f := ⟨⟨h.1, h.2.1⟩, k8 h.2.2.1, k64 h.2.2.2.1.1, k64 h.2.2.2.1.2, k64 h.2.2.2.2.1, k64 h.2.2.2.2.2⟩
theorem raw_pt (f : Pt_) (h : inC cPt f) : rawT f := ⟨h.1, k64 h.2.1.1, k64 h.2.1.2, k8 h.2.2⟩
theorem raw_aw (a : Air_) (h : inC cAw a) : rawA a := ⟨h.1, h.2.1, fun y hy => raw_pt y (h.2.2 y hy)⟩
theorem raw_lg (l : Leg_) (h : inC cLg l) : rawL l := ⟨⟨h.2.1, h.2.2.1⟩, k8 h.1, k8 h.2.2.2.1, k64 h.2.2.2.2.2.1, k64 h.2.2.2.2.2.2.1, k64 h.2.2.2.2.2.2.2.1, k64 h.2.2.2.2.2.2.2.2.1, k64 h.2.2.2.2.2.2.2.2.2.1.1, k64 h.2.2.2.2.2.2.2.2.2.1.2, k64 h.2.2.2.2.2.2.2.2.2.2.1, k64 h.2.2.2.2.2.2.2.2.2.2.2⟩
theorem raw_pa (x : Part_) (h : inC cPa x) : rawX x := ⟨⟨h.2.1, k8 h.1⟩, h.2.2.1, fun y hy => raw_lg y (h.2.2.2 y hy)⟩
theorem raw_pr (p : Proc_) (h : inC cPr p) : rawR p := ⟨⟨⟨h.1, h.2.1⟩, k8 h.2.2.1⟩, h.2.2.2.1, fun y hy => raw_pa y (h.2.2.2.2 y hy)⟩
theorem raw_db (x : DB0_) (h : inC cDB x) : rawDB (grpD x) :=
  ⟨⟨h.1.1, k64 h.1.2.1, k64 h.1.2.2.1, k64 h.1.2.2.2.1, k64 h.1.2.2.2.2.1, k64 h.1.2.2.2.2.2⟩, ⟨h.2.1.1, fun y hy => raw_fx y (h.2.1.2 y hy)⟩, ⟨h.2.2.1.1, fun y hy => raw_aw y (h.2.2.1.2 y hy)⟩, ⟨h.2.2.2.1, fun y hy => raw_pr y (h.2.2.2.2 y hy)⟩⟩
theorem active_law {x y : DB0_} (h : inC cDB x) (k : inC cDB y) {days : List Int} (hd : inC (.a (.i .i64)) days) : o3 (grpD x) (grpD y) days = some true := by
  obtain ⟨r, e, hr⟩ := active_plain (raw_db x h) (raw_db y k) hd.1 fun z hz => k64 (hd.2 z hz)
  rw [e, hr]
end Go.Proofs.YtpglaekodahcoaaGreatDoor
