/-
The payload of a result: the contracts of both PutResult and both GetResult. Conditions: the numbers lie in their types; lengths of at most 1000000.
-/
import Derived.Test.YtgnajpoebooafaaAgPut
import Derived.Test.YtgnajpoebooafaaAgSpec
namespace Go.Proofs.Ytgnajpoebooafaa
set_option linter.unusedVariables false
set_option linter.unusedSimpArgs false
set_option maxRecDepth 100000
open Go.RowKit
theorem rowB {B : Nat} {w1 w2 : World} {b : Nat} {cs : Array Value} (hb : Below B w1 w2) (h : ∀ o, w1.cell? ⟨b, o, none⟩ = cs[o]?) (hlt : b < B) : ∀ o, w2.cell? ⟨b, o, none⟩ = cs[o]? :=
  fun o => (hb.cell (p := ⟨b, o, none⟩) hlt).trans (h o)
theorem get8 (A : Option Addr) (n c : Nat) (bs : List UInt8) (w : World) (hkn : 8 ≤ n) (hn : n ≤ 1000000) (hr : Reads w w.heap.size 1 A n (bvs bs)) :
    Calls Try.prog 55 #[.slice A n c, .int .i64 8] w fun e w' => e = .returned (.int .i64 (numI (bs.take 8))) ∧ w = w' := get_any A n 8 c bs w (by omega) hkn hn hr
theorem put0 (x : Int) (w : World) (hx : I64 x) :
    Calls Try.prog 53 #[.slice none 0 0, .int .i64 x, .int .i64 8] w fun e w' => ∃ A' c', e = .returned (.slice A' 8 c') ∧ w'.ownsRow w.heap.size 5 1 (.slice A' 8 c') 8 (bvs (lowB x 8)) ∧ Below w.heap.size w w' :=
  (put_any w.heap.size none 0 0 [] x 8 w hx (by omega) (by omega) (Nat.le_refl _) (World.ownsRow_nil _ _ _ _)).mono fun e w' ⟨A', c', he, ho, hg, _⟩ =>
    ⟨A', c', by simpa using he, by simpa using ho, grown_below (World.ownsRow_nil w w.heap.size 5 1) (Nat.le_refl _) hg⟩
theorem Blk.grownB {w w' : World} {base g n c : Nat} {t e : TypeId} {cs : Array Value} {A : Option Addr} {size : Nat} {xs : List Value} (h : Blk w g t cs) (ho : w.ownsRow base e size (.slice A n c) n xs) (hg : w.grownBy w' (A.map (·.block))) (hne : e ≠ t) : Blk w' g t cs :=
  h.grown hg (by
    have := own_blk_ne ho h hne
    rw [ownBlock_slice] at this
    exact fun x => this x.symm)
theorem put8 (base : Nat) (A : Option Addr) (n c : Nat) (l : List UInt8) (x : Int) (w : World) (hx : I64 x) (hn : n ≤ 100000) (hbase : base ≤ w.heap.size) (hown : w.ownsRow base 5 1 (.slice A n c) n (bvs l)) :
    Calls Try.prog 53 #[.slice A n c, .int .i64 x, .int .i64 8] w fun e w' => ∃ A' c', e = .returned (.slice A' (n + 8) c') ∧ w'.ownsRow base 5 1 (.slice A' (n + 8) c') (n + 8) (bvs (l ++ lowB x 8)) ∧ Below base w w' ∧ w.grownBy w' (A.map (·.block)) :=
  (put_any base A n c _ x 8 w hx (by omega) (by omega) hbase hown).mono fun e w' ⟨A', c', he, ho, hg, _⟩ => ⟨A', c', he, by rw [bvs_append]; exact ho, grown_below hown hbase hg, hg⟩
theorem put2 (base : Nat) (A : Option Addr) (n c : Nat) (l : List UInt8) (x : Int) (w : World) (hx : I64 x) (hn : n ≤ 100000) (hbase : base ≤ w.heap.size) (hown : w.ownsRow base 5 1 (.slice A n c) n (bvs l)) :
    Calls Try.prog 53 #[.slice A n c, .int .i64 x, .int .i64 2] w fun e w' => ∃ A' c', e = .returned (.slice A' (n + 2) c') ∧ w'.ownsRow base 5 1 (.slice A' (n + 2) c') (n + 2) (bvs (l ++ lowB x 2)) ∧ Below base w w' :=
  (put_any base A n c _ x 2 w hx (by omega) (by omega) hbase hown).mono fun e w' ⟨A', c', he, ho, hg, _⟩ => ⟨A', c', he, by rw [bvs_append]; exact ho, grown_below hown hbase hg⟩
theorem low8 (x : Int) (w : World) : Calls Try.prog 54 #[.int .i64 x, .int .i64 8] w fun e w' => ∃ A' c', e = .returned (.slice A' 8 c') ∧ w'.ownsRow w.heap.size 5 1 (.slice A' 8 c') 8 (bvs (lowB x 8)) ∧ Below w.heap.size w w' := low_any x 8 w (by omega)
/-- the byte that a number in uint8 is -/
def u8b (x : Int) : UInt8 := UInt8.ofNat x.toNat
theorem u8b_toNat {x : Int} (h : U8 x) : ((u8b x).toNat : Int) = x := by
  unfold u8b U8 at *; rw [UInt8.toNat_ofNat']; omega
theorem bvs3 {a b c : Int} (ha : U8 a) (hb : U8 b) (hc : U8 c) : bvs [u8b a, u8b b, u8b c] = [.int .u8 a, .int .u8 b, .int .u8 c] := by
  simp [bvs, u8b_toNat ha, u8b_toNat hb, u8b_toNat hc]
def resB (st la ve ph ba sp al vs : Int) : List UInt8 := lowB st 8 ++ [u8b la, u8b ve, u8b ph] ++ lowB ba 8 ++ lowB sp 8 ++ lowB al 8 ++ lowB vs 8
def elem4 (ba sp al vs : Int) : Nat → Int | 0 => ba | 1 => sp | 2 => al | _ => vs
def part4 (st la ve ph ba sp al vs : Int) : Nat → List UInt8
  | 0 => lowB st 8 ++ [u8b la, u8b ve, u8b ph]
  | j + 1 => part4 st la ve ph ba sp al vs j ++ lowB (elem4 ba sp al vs j) 8
def ResGives (w : World) (l : List UInt8) (e : Ending) (w' : World) : Prop := ∃ A c, e = .returned (.slice A 43 c) ∧ Reads w' w'.heap.size 1 A 43 (bvs l) ∧ 43 ≤ c ∧ Below w.heap.size w w'
set_option maxHeartbeats 2000000 in
theorem putres1_any (st la ve ph ba sp al vs : Int) (w : World) (hst : I64 st) (hla : U8 la) (hve : U8 ve) (hph : U8 ph) (hba : I64 ba) (hsp : I64 sp) (hal : I64 al) (hvs : I64 vs) :
    Calls Try.prog 21 #[.agg #[.int .i64 st, .int .u8 la, .int .u8 ve, .int .u8 ph, .int .i64 ba, .int .i64 sp, .int .i64 al, .int .i64 vs]] w (ResGives w (resB st la ve ph ba sp al vs)) := by
  have B3 := Lib.hid (bvs3 hla hve hph)
  go_enter Try.func21, Try.ntmps21
  go_upto_region 2 with fail
  have kb : ∀ o, ((w.alloc (.cells #[.int .i64 st, .int .u8 la, .int .u8 ve, .int .u8 ph, .int .i64 ba, .int .i64 sp, .int .i64 al, .int .i64 vs] 38)).alloc (.cells #[.int .u8 la, .int .u8 ve, .int .u8 ph, .int .i64 ba, .int .i64 sp, .int .i64 al, .int .i64 vs] 36)).cell? ⟨w.heap.size, o, none⟩ = (#[.int .i64 st, .int .u8 la, .int .u8 ve, .int .u8 ph, .int .i64 ba, .int .i64 sp, .int .i64 al, .int .i64 vs] : Array Value)[o]? := ((Blk.new w 38 #[.int .i64 st, .int .u8 la, .int .u8 ve, .int .u8 ph, .int .i64 ba, .int .i64 sp, .int .i64 al, .int .i64 vs]).alloc _).cell
  have kt : ∀ o, ((w.alloc (.cells #[.int .i64 st, .int .u8 la, .int .u8 ve, .int .u8 ph, .int .i64 ba, .int .i64 sp, .int .i64 al, .int .i64 vs] 38)).alloc (.cells #[.int .u8 la, .int .u8 ve, .int .u8 ph, .int .i64 ba, .int .i64 sp, .int .i64 al, .int .i64 vs] 36)).cell? ⟨w.heap.size + 1, o, none⟩ = (#[.int .u8 la, .int .u8 ve, .int .u8 ph, .int .i64 ba, .int .i64 sp, .int .i64 al, .int .i64 vs] : Array Value)[o]? := (Blk.new' (g := w.heap.size + 1) (by simp)).cell
  have hB1 : Below w.heap.size w ((w.alloc (.cells #[.int .i64 st, .int .u8 la, .int .u8 ve, .int .u8 ph, .int .i64 ba, .int .i64 sp, .int .i64 al, .int .i64 vs] 38)).alloc (.cells #[.int .u8 la, .int .u8 ve, .int .u8 ph, .int .i64 ba, .int .i64 sp, .int .i64 al, .int .i64 vs] 36)) := Ba (Ba (Below.refl _ _))
  have hsz : w.heap.size + 1 < ((w.alloc (.cells #[.int .i64 st, .int .u8 la, .int .u8 ve, .int .u8 ph, .int .i64 ba, .int .i64 sp, .int .i64 al, .int .i64 vs] 38)).alloc (.cells #[.int .u8 la, .int .u8 ve, .int .u8 ph, .int .i64 ba, .int .i64 sp, .int .i64 al, .int .i64 vs] 36)).heap.size := by simp
  generalize ((w.alloc (.cells #[.int .i64 st, .int .u8 la, .int .u8 ve, .int .u8 ph, .int .i64 ba, .int .i64 sp, .int .i64 al, .int .i64 vs] 38)).alloc (.cells #[.int .u8 la, .int .u8 ve, .int .u8 ph, .int .i64 ba, .int .i64 sp, .int .i64 al, .int .i64 vs] 36)) = W1 at *
  have HB1 := Lib.hid hB1
  clear hB1
  go_cut [4] (fun v wx => ∃ A c, v = .slice A 11 c ∧ wx.ownsRow W1.heap.size 5 1 (.slice A 11 c) 11 (bvs (lowB st 8 ++ [u8b la, u8b ve, u8b ph])) ∧ Below W1.heap.size W1 wx)
  case first =>
    have hd : Below W1.heap.size W1 W1.drew := (Below.refl _ _).drew
    go_region_held3 (fun w' => ((∀ o, w'.cell? ⟨w.heap.size, o, none⟩ = (#[.int .i64 st, .int .u8 la, .int .u8 ve, .int .u8 ph, .int .i64 ba, .int .i64 sp, .int .i64 al, .int .i64 vs] : Array Value)[o]?) ∧ (∀ o, w'.cell? ⟨w.heap.size + 1, o, none⟩ = (#[.int .u8 la, .int .u8 ve, .int .u8 ph, .int .i64 ba, .int .i64 sp, .int .i64 al, .int .i64 vs] : Array Value)[o]?)) ∧ Below W1.heap.size W1 w')
      (first
        | exact ⟨⟨kb, kt⟩, hd⟩
        | (rcases ‹(_ ∧ _) ∧ Below _ _ _› with ⟨⟨s0, s1⟩, sB⟩; exact ⟨⟨rowGo (by first | assumption | exact Ba (Below.refl _ _)) s0 rfl, rowGo (by first | assumption | exact Ba (Below.refl _ _)) s1 rfl⟩, Bt sB (by first | assumption | exact Ba (Below.refl _ _))⟩)
        | (rcases ‹(_ ∧ _) ∧ Below _ _ _› with ⟨⟨s0, s1⟩, sB⟩; exact ⟨⟨rowB hb5 s0 (by omega), rowB hb5 s1 (by omega)⟩, sB.trans hb5⟩))
      (first
        | (go_at_call 53; refine (put0 _ _ hst).mono ?_; rintro e w3 ⟨A3, c3, rfl, ho3, hb3⟩; have HO3 := Lib.hid ho3; clear ho3)
        | (rcases ‹(_ ∧ _) ∧ Below _ _ _› with ⟨⟨s0, s1⟩, sB⟩; refine stepB (base := W1.heap.size) (n := 8) rfl (.tmp 11) (.tmp 18) (by rfl) (by rfl) (by first | exact ownsRow_mono HO3.out (by simp) | exact own_al (ownsRow_mono HO3.out (by simp))) (by rfl) (by first | exact reads_new _ _ _ 1 3 rfl | exact (Reads.drew (reads_new _ _ _ 1 3 rfl)).goB (by simp) hb3) (by simp [Value.oneCell']) (by omega) sB.size ?_; intro A5 c5 w5 ho5 hb5 hg5; rw [← B3.out, ← bvs_append] at ho5; have HO5 := Lib.hid ho5; clear ho5 hg5)
        | fail)
    all_goals
      have sB := And.right ‹(_ ∧ _) ∧ Below _ _ w5›
      go_wp2_with fail
      go_meet
      exact ⟨A5, c5, rfl, HO5.out, sB⟩
  case rest =>
    obtain ⟨A, c, rfl, hown, hbx⟩ := hcut
    have HO := Lib.hid hown
    have ktc := rowB hbx kt (by omega)
    have hszc : W1.heap.size ≤ wc.heap.size := hbx.size
    clear hown kb kt
    go_wp2
    have hbL := Blk.new wc 2 #[.int .i64 ba, .int .i64 sp, .int .i64 al, .int .i64 vs]
    have HOL := Lib.hid (own_al (o := .cells #[.int .i64 ba, .int .i64 sp, .int .i64 al, .int .i64 vs] 2) HO.out)
    have hBL : Below W1.heap.size W1 (wc.alloc (.cells #[.int .i64 ba, .int .i64 sp, .int .i64 al, .int .i64 vs] 2)) := Ba hbx
    clear ktc
    go_loopw [4, 30] (fun v i wr => ∃ (j : Nat) (A' : Option Addr) (c' : Nat), j ≤ 4 ∧ i = .int .i64 (j : Int) ∧ v = .slice A' (11 + 8 * j) c' ∧ wr.ownsRow W1.heap.size 5 1 (.slice A' (11 + 8 * j) c') (11 + 8 * j) (bvs (part4 st la ve ph ba sp al vs j)) ∧ Blk wr wc.heap.size 2 #[.int .i64 ba, .int .i64 sp, .int .i64 al, .int .i64 vs] ∧ Below W1.heap.size W1 wr) (fun _ i _ => 4 - (intOf i).toNat)
    case atStart => exact ⟨0, A, c, by omega, rfl, rfl, HOL.out, hbL, hBL⟩
    case round =>
      obtain ⟨j, A', c', hj, rfl, rfl, ho, hk, hb⟩ := hrel
      have HO' := Lib.hid ho
      clear ho hbL
      by_cases hlt : j < 4
      · have hc : wr.cell? ⟨wc.heap.size, j, none⟩ = some (.int .i64 (elem4 ba sp al vs j)) := by
          rw [hk.cell j]
          have h4 : j = 0 ∨ j = 1 ∨ j = 2 ∨ j = 3 := by omega
          rcases h4 with rfl | rfl | rfl | rfl <;> rfl
        have hI : I64 (elem4 ba sp al vs j) := by
          have h4 : j = 0 ∨ j = 1 ∨ j = 2 ∨ j = 3 := by omega
          rcases h4 with rfl | rfl | rfl | rfl <;> assumption
        have HK := Lib.hid hk
        have j4 : (j : Int) < 4 := by omega
        clear hk
        go_wp2_with fail
        refine (put8 W1.heap.size _ _ _ _ _ _ hI (by omega) hb.size HO'.out).mono ?_
        rintro e w1 ⟨A2, c2, rfl, ho2, hb2, hg2⟩
        have HO2 := Lib.hid ho2
        have HK2 := Lib.hid (HK.out.grownB HO'.out hg2 (by decide))
        have hb3 := hb.trans hb2
        clear ho2 hb2 hg2 hI
        go_wp2
        go_roundw
        case rel => exact ⟨j + 1, A2, c2, by omega, by go_num, rfl, HO2.out, HK2.out, hb3⟩
        case measure => simp [intOf]; omega
      · obtain rfl : j = 4 := by omega
        go_wp2
        go_ret
        exact ⟨A', c', rfl, Reads.of_own HO'.out, own_le HO'.out, Bt HB1.out hb⟩
end Go.Proofs.Ytgnajpoebooafaa
