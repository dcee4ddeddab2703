/-
The walk of AgreeResults. Conditions: none.
-/
import Derived.Test.YtgnajpoebooafaaAgAwake
import Derived.Test.YtgnajpoebooafaaAgRes2
import Derived.Test.YtgnajpoebooafaaAgGet2
import Derived.Test.YtgnajpoebooafaaFrame
namespace Go.Proofs.Ytgnajpoebooafaa
set_option linter.unusedVariables false
set_option linter.unusedSimpArgs false
set_option maxRecDepth 100000
open Go.RowKit
theorem cut_at {l a b : List UInt8} {k : Nat} (m : List UInt8) (h : l = m ++ (a ++ b)) (hm : m.length = k) (ha : a.length = 8) : (l.drop k).take 8 = a := by
  subst h
  rw [← hm, List.drop_left, List.take_append_of_le_length (by omega), List.take_of_length_le (by omega)]
theorem at8_at {l b : List UInt8} {k : Nat} (m : List UInt8) (x : Int) (hx : U8 x) (h : l = m ++ (u8b x :: b)) (hm : m.length = k) : at8 l k = x := by
  subst h
  unfold at8
  rw [← hm]
  simp only [List.getD, List.getElem?_append_right (Nat.le_refl _), Nat.sub_self, List.getElem?_cons_zero, Option.getD_some]
  exact u8b_toNat hx
theorem resB_length (st la ve ph ba sp al vs : Int) : (resB st la ve ph ba sp al vs).length = 43 := by simp [resB, lowB_length]
theorem getres1_round (st la ve ph ba sp al vs : Int) (A : Option Addr) (c : Nat) (w : World) (hc : 43 ≤ c) (hst : I64 st) (hla : U8 la) (hve : U8 ve) (hph : U8 ph) (hba : I64 ba) (hsp : I64 sp) (hal : I64 al) (hvs : I64 vs)
    (hr : Reads w w.heap.size 1 A 43 (bvs (resB st la ve ph ba sp al vs))) :
    Calls Try.prog 22 #[.slice A 43 c] w fun e w' => e = .returned (.tuple #[.agg #[.int .i64 st, .int .u8 la, .int .u8 ve, .int .u8 ph, .int .i64 ba, .int .i64 sp, .int .i64 al, .int .i64 vs], .int .i64 0]) ∧ Below w.heap.size w w' := by
  refine (getres1_any A 43 c _ w (by omega) hc hr).mono ?_
  rintro e w' ⟨he, hb⟩
  refine ⟨?_, hb⟩
  have e0 : (resB st la ve ph ba sp al vs).take 8 = lowB st 8 := by
    have := cut_at (l := resB st la ve ph ba sp al vs) (k := 0) (a := lowB st 8) (b := [u8b la, u8b ve, u8b ph] ++ lowB ba 8 ++ lowB sp 8 ++ lowB al 8 ++ lowB vs 8) [] (by simp [resB]) rfl (lowB_length _ _)
    simpa using this
  have e8 := at8_at (l := resB st la ve ph ba sp al vs) (k := 8) (b := u8b ve :: u8b ph :: (lowB ba 8 ++ lowB sp 8 ++ lowB al 8 ++ lowB vs 8)) (lowB st 8) la hla (by simp [resB]) (lowB_length _ _)
  have e9 := at8_at (l := resB st la ve ph ba sp al vs) (k := 9) (b := u8b ph :: (lowB ba 8 ++ lowB sp 8 ++ lowB al 8 ++ lowB vs 8)) (lowB st 8 ++ [u8b la]) ve hve (by simp [resB]) (by simp [lowB_length])
  have e10 := at8_at (l := resB st la ve ph ba sp al vs) (k := 10) (b := lowB ba 8 ++ lowB sp 8 ++ lowB al 8 ++ lowB vs 8) (lowB st 8 ++ [u8b la, u8b ve]) ph hph (by simp [resB]) (by simp [lowB_length])
  have e11 := cut_at (l := resB st la ve ph ba sp al vs) (k := 11) (a := lowB ba 8) (b := lowB sp 8 ++ lowB al 8 ++ lowB vs 8) (lowB st 8 ++ [u8b la, u8b ve, u8b ph]) (by simp [resB]) (by simp [lowB_length]) (lowB_length _ _)
  have e19 := cut_at (l := resB st la ve ph ba sp al vs) (k := 19) (a := lowB sp 8) (b := lowB al 8 ++ lowB vs 8) (lowB st 8 ++ [u8b la, u8b ve, u8b ph] ++ lowB ba 8) (by simp [resB]) (by simp [lowB_length]) (lowB_length _ _)
  have e27 := cut_at (l := resB st la ve ph ba sp al vs) (k := 27) (a := lowB al 8) (b := lowB vs 8) (lowB st 8 ++ [u8b la, u8b ve, u8b ph] ++ lowB ba 8 ++ lowB sp 8) (by simp [resB]) (by simp [lowB_length]) (lowB_length _ _)
  have e35 := cut_at (l := resB st la ve ph ba sp al vs) (k := 35) (a := lowB vs 8) (b := []) (lowB st 8 ++ [u8b la, u8b ve, u8b ph] ++ lowB ba 8 ++ lowB sp 8 ++ lowB al 8) (by simp [resB]) (by simp [lowB_length]) (lowB_length _ _)
  rw [he]
  simp only [rS, rB, rN, rE, if_true, e0, e8, e9, e10, e11, e19, e27, e35]
  rw [numI_lowB8 st hst.1 hst.2, numI_lowB8 ba hba.1 hba.2, numI_lowB8 sp hsp.1 hsp.2, numI_lowB8 al hal.1 hal.2, numI_lowB8 vs hvs.1 hvs.2]
set_option maxHeartbeats 4000000 in
theorem results_walk (st la ve ph ba sp al vs : Int) (A2 : Option Addr) (n2 k2 : Nat) (l2 : List UInt8) (w : World) (hst : I64 st) (hla : U8 la) (hve : U8 ve) (hph : U8 ph) (hba : I64 ba) (hsp : I64 sp) (hal : I64 al) (hvs : I64 vs) (hin2 : BIn w A2 n2 k2 l2) :
    Calls Try.prog 6 #[.agg #[.int .i64 st, .int .u8 la, .int .u8 ve, .int .u8 ph, .int .i64 ba, .int .i64 sp, .int .i64 al, .int .i64 vs], .slice A2 n2 k2] w fun e w' => e = .returned (.bool true) ∧ Below w.heap.size w w' := by
  unfold BIn maxLen at hin2
  obtain ⟨hr2, hnk2, hk2⟩ := hin2
  have HR2 := Lib.hid hr2
  clear hr2
  go_enter Try.func6, Try.ntmps6
  go_upto_region 6 with (first
    | (go_at_call 13; refine (awake53 _).mono ?_; rintro e w1 ⟨rfl, hb1⟩; obtain ⟨hc1, hf1, hz1⟩ := bcell hb1; try simp at hz1)
    | (go_at_call 14; refine (cut53 _ _ _ _ _ (by omega) (by omega) (by omega) (by omega)).mono ?_; rintro e w2 ⟨rfl, rfl⟩)
    | (go_at_call 21; refine (putres1_any _ _ _ _ _ _ _ _ _ hst hla hve hph hba hsp hal hvs).mono ?_; rintro e w4 ⟨A4, c4, rfl, hr4, hc4, hb4⟩; have HR4 := Lib.hid hr4; clear hr4)
    | (go_at_call 22; refine (getres1_round _ _ _ _ _ _ _ _ _ _ _ hc4 hst hla hve hph hba hsp hal hvs HR4.out).mono ?_; rintro e w5 ⟨rfl, hb5⟩))
  have kx2 : ∀ o, (w5.alloc (.cells #[.int .i64 st, .int .u8 la, .int .u8 ve, .int .u8 ph, .int .i64 ba, .int .i64 sp, .int .i64 al, .int .i64 vs] 38)).cell? ⟨w.heap.size, o, none⟩ = (#[.int .i64 st, .int .u8 la, .int .u8 ve, .int .u8 ph, .int .i64 ba, .int .i64 sp, .int .i64 al, .int .i64 vs] : Array Value)[o]? := rowGo (Ba (Bt hb4 hb5)) (rowGo hb1 (Blk.new w 38 #[.int .i64 st, .int .u8 la, .int .u8 ve, .int .u8 ph, .int .i64 ba, .int .i64 sp, .int .i64 al, .int .i64 vs]).cell rfl) rfl
  have k6 : ∀ o, (w5.alloc (.cells #[.int .i64 st, .int .u8 la, .int .u8 ve, .int .u8 ph, .int .i64 ba, .int .i64 sp, .int .i64 al, .int .i64 vs] 38)).cell? ⟨w5.heap.size, o, none⟩ = (#[.int .i64 st, .int .u8 la, .int .u8 ve, .int .u8 ph, .int .i64 ba, .int .i64 sp, .int .i64 al, .int .i64 vs] : Array Value)[o]? := (Blk.new w5 38 #[.int .i64 st, .int .u8 la, .int .u8 ve, .int .u8 ph, .int .i64 ba, .int .i64 sp, .int .i64 al, .int .i64 vs]).cell
  have hB6 : Below w.heap.size w (w5.alloc (.cells #[.int .i64 st, .int .u8 la, .int .u8 ve, .int .u8 ph, .int .i64 ba, .int .i64 sp, .int .i64 al, .int .i64 vs] 38)) := Ba (Bt (Bt (Bt (Ba (Below.refl _ _)) hb1) hb4) hb5)
  have hR6 := HR4.out.go (Ba hb5 : Below w4.heap.size w4 (w5.alloc (.cells #[.int .i64 st, .int .u8 la, .int .u8 ve, .int .u8 ph, .int .i64 ba, .int .i64 sp, .int .i64 al, .int .i64 vs] 38)))
  have hg6 : w5.heap.size < (w5.alloc (.cells #[.int .i64 st, .int .u8 la, .int .u8 ve, .int .u8 ph, .int .i64 ba, .int .i64 sp, .int .i64 al, .int .i64 vs] 38)).heap.size := by simp
  generalize (w5.alloc (.cells #[.int .i64 st, .int .u8 la, .int .u8 ve, .int .u8 ph, .int .i64 ba, .int .i64 sp, .int .i64 al, .int .i64 vs] 38)) = W6 at *
  have hg2 : w.heap.size < W6.heap.size := World.block_lt_of_cell? W6 ⟨w.heap.size, 0, none⟩ ((kx2 0).trans rfl)
  have R6 := Lib.hid hR6
  have HB6 := Lib.hid hB6
  have s6 := run_string (P := Try.prog) (c := c4) hR6 22 9 5 Try.underlying22 Try.underlying5 Try.underlying9
  have s6d := run_string (P := Try.prog) (w := W6.drew) (c := c4) hR6 22 9 5 Try.underlying22 Try.underlying5 Try.underlying9
  clear HR4 hb1 hb4 hb5 hc1 hf1 hz1 hR6 hB6
  go_cut [41] (fun v wx => v = .bool false ∧ Below W6.heap.size W6 wx)
  case first =>
    refine wp_region_held_drew (S := (fun w' => ((∀ o, w'.cell? ⟨w.heap.size, o, none⟩ = (#[.int .i64 st, .int .u8 la, .int .u8 ve, .int .u8 ph, .int .i64 ba, .int .i64 sp, .int .i64 al, .int .i64 vs] : Array Value)[o]?) ∧ (∀ o, w'.cell? ⟨w5.heap.size, o, none⟩ = (#[.int .i64 st, .int .u8 la, .int .u8 ve, .int .u8 ph, .int .i64 ba, .int .i64 sp, .int .i64 al, .int .i64 vs] : Array Value)[o]?)) ∧ (convert 22 9 (.slice A4 43 c4)).run Try.prog w' = .ok (.string ⟨(resB st la ve ph ba sp al vs).toArray⟩) w' ∧ Below W6.heap.size W6 w')) (by kernel_rfl) ?_ (fun hHeld => ?_)
    · (try dsimp only)
      exact ⟨⟨kx2, k6⟩, s6d, (Below.refl _ _).drew⟩
    refine wpAnyH_take (i := 0) (v := ?_) rfl (by kernel_rfl) (by kernel_rfl) (by kernel_rfl) (fun _ _ _ h => h) (Or.inl ⟨by rfl, ?_⟩) (by assumption) ?_
    rotate_left
    · intro w' hSw
      (try dsimp only at hSw)
      go_simp
      all_goals with_reducible rfl
    (try simp only [Act.put, List.setIfInBounds_toArray, List.set_cons_zero, List.set_cons_succ, List.getElem_toArray, List.getElem_cons_zero, List.getElem_cons_succ])
    refine wpAnyH_take (i := 1) (v := ?_) rfl (by kernel_rfl) (by kernel_rfl) (by kernel_rfl) (fun _ _ _ h => h) (Or.inl ⟨by rfl, ?_⟩) (by assumption) ?_
    rotate_left
    · intro w' hSw
      (try dsimp only at hSw)
      go_simp
      all_goals with_reducible rfl
    (try simp only [Act.put, List.setIfInBounds_toArray, List.set_cons_zero, List.set_cons_succ, List.getElem_toArray, List.getElem_cons_zero, List.getElem_cons_succ])
    refine wpAnyH_take (i := 2) (v := ?_) rfl (by kernel_rfl) (by kernel_rfl) (by kernel_rfl) (fun _ _ _ h => h) (Or.inl ⟨by rfl, ?_⟩) (by assumption) ?_
    rotate_left
    · intro w' hSw
      (try dsimp only at hSw)
      go_simp
      all_goals with_reducible rfl
    (try simp only [Act.put, List.setIfInBounds_toArray, List.set_cons_zero, List.set_cons_succ, List.getElem_toArray, List.getElem_cons_zero, List.getElem_cons_succ])
    refine wpAnyH_take (i := 3) (v := ?_) rfl (by kernel_rfl) (by kernel_rfl) (by kernel_rfl) (fun _ _ _ h => h) (Or.inl ⟨by rfl, ?_⟩) (by assumption) ?_
    rotate_left
    · intro w' hSw
      (try dsimp only at hSw)
      go_simp
      all_goals with_reducible rfl
    (try simp only [Act.put, List.setIfInBounds_toArray, List.set_cons_zero, List.set_cons_succ, List.getElem_toArray, List.getElem_cons_zero, List.getElem_cons_succ])
    refine wpAnyH_take (i := 4) (v := ?_) rfl (by kernel_rfl) (by kernel_rfl) (by kernel_rfl) (fun _ _ _ h => h) (Or.inl ⟨by rfl, ?_⟩) (by assumption) ?_
    rotate_left
    · intro w' hSw
      (try dsimp only at hSw)
      go_simp
      all_goals with_reducible rfl
    (try simp only [Act.put, List.setIfInBounds_toArray, List.set_cons_zero, List.set_cons_succ, List.getElem_toArray, List.getElem_cons_zero, List.getElem_cons_succ])
    refine wpAnyH_take (i := 5) (v := ?_) rfl (by kernel_rfl) (by kernel_rfl) (by kernel_rfl) (fun _ _ _ h => h) (Or.inl ⟨by rfl, ?_⟩) (by assumption) ?_
    rotate_left
    · intro w' hSw
      (try dsimp only at hSw)
      go_simp
      all_goals with_reducible rfl
    (try simp only [Act.put, List.setIfInBounds_toArray, List.set_cons_zero, List.set_cons_succ, List.getElem_toArray, List.getElem_cons_zero, List.getElem_cons_succ])
    refine wpAnyH_take (i := 6) (v := ?_) rfl (by kernel_rfl) (by kernel_rfl) (by kernel_rfl) (fun _ _ _ h => h) (Or.inl ⟨by rfl, ?_⟩) (by assumption) ?_
    rotate_left
    · intro w' hSw
      (try dsimp only at hSw)
      go_simp
      all_goals with_reducible rfl
    (try simp only [Act.put, List.setIfInBounds_toArray, List.set_cons_zero, List.set_cons_succ, List.getElem_toArray, List.getElem_cons_zero, List.getElem_cons_succ])
    refine wpAnyH_ready (rs := [7]) (by kernel_rfl) (by simp) ?_
    refine AllReadyH.cons (o := _) rfl (fun K hK => ?_) AllReadyH.nil
    go_simp
    go_at_call 23
    refine (putres2_any _ _ _ _ _ _ _ _ _ hst hla hve hph hba hsp hal hvs).mono ?_
    rintro e w9 ⟨A9, c9, rfl, hr9, hc9, hb9⟩
    have s9 := run_string (P := Try.prog) (c := c9) hr9 22 9 5 Try.underlying22 Try.underlying5 Try.underlying9
    have hw9 : Below W6.heap.size W6 w9 := (Below.refl _ _).drew.trans hb9
    clear hr9
    go_wp2_with fail
    refine hK.out _ _ ?_ (fun hHeld => ?_)
    · (try dsimp only)
      exact ⟨⟨rowGo hw9 kx2 rfl, rowGo hw9 k6 rfl⟩, run_string (P := Try.prog) (c := c4) (R6.out.go hw9) 22 9 5 Try.underlying22 Try.underlying5 Try.underlying9, hw9⟩
    clear hK K
    (try simp only [Act.put, List.setIfInBounds_toArray, List.set_cons_zero, List.set_cons_succ, List.getElem_toArray, List.getElem_cons_zero, List.getElem_cons_succ])
    refine wpAnyH_ready (rs := [8]) (by kernel_rfl) (by simp) ?_
    refine AllReadyH.cons (o := _) rfl (fun K hK => ?_) AllReadyH.nil
    go_simp
    refine hK.out _ _ ?_ (fun hHeld => ?_)
    · (try dsimp only)
      assumption
    clear hK K
    (try simp only [Act.put, List.setIfInBounds_toArray, List.set_cons_zero, List.set_cons_succ, List.getElem_toArray, List.getElem_cons_zero, List.getElem_cons_succ])
    refine wpAnyH_take (i := 9) (v := ?_) rfl (by kernel_rfl) (by kernel_rfl) (by kernel_rfl) (fun _ _ _ h => h) (Or.inl ⟨by rfl, ?_⟩) (by assumption) ?_
    rotate_left
    · intro w' hSw
      (try dsimp only at hSw)
      go_simp
      all_goals with_reducible rfl
    (try simp only [Act.put, List.setIfInBounds_toArray, List.set_cons_zero, List.set_cons_succ, List.getElem_toArray, List.getElem_cons_zero, List.getElem_cons_succ])
    refine wpAnyH_take (i := 10) (v := ?_) rfl (by kernel_rfl) (by kernel_rfl) (by kernel_rfl) (fun _ _ _ h => h) (Or.inl ⟨by rfl, ?_⟩) (by assumption) ?_
    rotate_left
    · intro w' hSw
      (try dsimp only at hSw)
      go_simp
      all_goals with_reducible rfl
    (try simp only [Act.put, List.setIfInBounds_toArray, List.set_cons_zero, List.set_cons_succ, List.getElem_toArray, List.getElem_cons_zero, List.getElem_cons_succ])
    refine wpAnyH_take (i := 11) (v := ?_) rfl (by kernel_rfl) (by kernel_rfl) (by kernel_rfl) (fun _ _ _ h => h) (Or.inl ⟨by rfl, ?_⟩) (by assumption) ?_
    rotate_left
    · intro w' hSw
      (try dsimp only at hSw)
      go_simp
      all_goals with_reducible rfl
    (try simp only [Act.put, List.setIfInBounds_toArray, List.set_cons_zero, List.set_cons_succ, List.getElem_toArray, List.getElem_cons_zero, List.getElem_cons_succ])
    refine wpAnyH_take (i := 12) (v := ?_) rfl (by kernel_rfl) (by kernel_rfl) (by kernel_rfl) (fun _ _ _ h => h) (Or.inl ⟨by rfl, ?_⟩) (by assumption) ?_
    rotate_left
    · intro w' hSw
      (try dsimp only at hSw)
      go_simp
      all_goals with_reducible rfl
    (try simp only [Act.put, List.setIfInBounds_toArray, List.set_cons_zero, List.set_cons_succ, List.getElem_toArray, List.getElem_cons_zero, List.getElem_cons_succ])
    refine wpAnyH_take (i := 13) (v := ?_) rfl (by kernel_rfl) (by kernel_rfl) (by kernel_rfl) (fun _ _ _ h => h) (Or.inl ⟨by rfl, ?_⟩) (by assumption) ?_
    rotate_left
    · intro w' hSw
      (try dsimp only at hSw)
      go_simp
      all_goals with_reducible rfl
    (try simp only [Act.put, List.setIfInBounds_toArray, List.set_cons_zero, List.set_cons_succ, List.getElem_toArray, List.getElem_cons_zero, List.getElem_cons_succ])
    refine wpAnyH_take (i := 14) (v := ?_) rfl (by kernel_rfl) (by kernel_rfl) (by kernel_rfl) (fun _ _ _ h => h) (Or.inl ⟨by rfl, ?_⟩) (by assumption) ?_
    rotate_left
    · intro w' hSw
      (try dsimp only at hSw)
      go_simp
      all_goals with_reducible rfl
    (try simp only [Act.put, List.setIfInBounds_toArray, List.set_cons_zero, List.set_cons_succ, List.getElem_toArray, List.getElem_cons_zero, List.getElem_cons_succ])
    refine wpAnyH_take (i := 15) (v := ?_) rfl (by kernel_rfl) (by kernel_rfl) (by kernel_rfl) (fun _ _ _ h => h) (Or.inl ⟨by rfl, ?_⟩) (by assumption) ?_
    rotate_left
    · intro w' hSw
      (try dsimp only at hSw)
      go_simp
      all_goals with_reducible rfl
    (try simp only [Act.put, List.setIfInBounds_toArray, List.set_cons_zero, List.set_cons_succ, List.getElem_toArray, List.getElem_cons_zero, List.getElem_cons_succ])
    refine wpAnyH_take (i := 16) (v := ?_) rfl (by kernel_rfl) (by kernel_rfl) (by kernel_rfl) (fun _ _ _ h => h) (Or.inl ⟨by rfl, ?_⟩) (by assumption) ?_
    rotate_left
    · intro w' hSw
      (try dsimp only at hSw)
      go_simp
      all_goals with_reducible rfl
    (try simp only [Act.put, List.setIfInBounds_toArray, List.set_cons_zero, List.set_cons_succ, List.getElem_toArray, List.getElem_cons_zero, List.getElem_cons_succ])
    refine wpAnyH_take (i := 17) (v := ?_) rfl (by kernel_rfl) (by kernel_rfl) (by kernel_rfl) (fun _ _ _ h => h) (Or.inl ⟨by rfl, ?_⟩) (by assumption) ?_
    rotate_left
    · intro w' hSw
      (try dsimp only at hSw)
      go_simp
      all_goals with_reducible rfl
    (try simp only [Act.put, List.setIfInBounds_toArray, List.set_cons_zero, List.set_cons_succ, List.getElem_toArray, List.getElem_cons_zero, List.getElem_cons_succ])
    refine wpAnyH_take (i := 18) (v := ?_) rfl (by kernel_rfl) (by kernel_rfl) (by kernel_rfl) (fun _ _ _ h => h) (Or.inl ⟨by rfl, ?_⟩) (by assumption) ?_
    rotate_left
    · intro w' hSw
      (try dsimp only at hSw)
      go_simp
      all_goals with_reducible rfl
    (try simp only [Act.put, List.setIfInBounds_toArray, List.set_cons_zero, List.set_cons_succ, List.getElem_toArray, List.getElem_cons_zero, List.getElem_cons_succ])
    refine wpAnyH_done (by kernel_rfl) ?_ _
    go_wp2_with fail
    go_meet
    exact ⟨rfl, hw9⟩
  case rest =>
    obtain ⟨rfl, hb⟩ := hcut
    obtain ⟨m2, hm2⟩ : ∃ m, m = min n2 50 := ⟨_, rfl⟩
    rw [← hm2]
    have hBc := Bt HB6.out hb
    have hR : Reads wc wc.heap.size 1 A2 m2 (bvs (l2.take m2)) := by
      have := (HR2.out.go hBc).take (k := m2) (by omega)
      rw [bvs_take]; simpa using this
    generalize l2.take m2 = L2 at *
    have hmk : m2 ≤ k2 := by omega
    have hm6 : m2 ≤ 1000 := by omega
    have R := Lib.hid hR
    have HBc := Lib.hid hBc
    clear hR hb hBc hm2
    go_upto_region 10 with (first
      | (go_at_call 22; refine (getres1_any _ _ _ _ _ (by omega) hmk R.out).mono ?_; rintro e w7 ⟨rfl, hb7⟩; obtain ⟨hc7, hf7, hz7⟩ := bcell hb7)
      | (go_at_call 24; refine (getres2_any _ _ _ _ _ (by omega) hmk (R.out.go (Ba hb7))).mono ?_; rintro e w8 ⟨rfl, hb8⟩; obtain ⟨hc8, hf8, hz8⟩ := bcell hb8; try simp at hz8))
    have k7 : ∀ o, (w8.alloc (.cells #[.int .i64 (rS L2 m2), .int .u8 (rB L2 m2 8), .int .u8 (rB L2 m2 9), .int .u8 (rB L2 m2 10), .int .i64 (rN L2 m2 11), .int .i64 (rN L2 m2 19), .int .i64 (rN L2 m2 27), .int .i64 (rN L2 m2 35)] 43)).cell? ⟨w7.heap.size, o, none⟩ = (#[.int .i64 (rS L2 m2), .int .u8 (rB L2 m2 8), .int .u8 (rB L2 m2 9), .int .u8 (rB L2 m2 10), .int .i64 (rN L2 m2 11), .int .i64 (rN L2 m2 19), .int .i64 (rN L2 m2 27), .int .i64 (rN L2 m2 35)] : Array Value)[o]? := rowGo (Ba hb8) (Blk.new w7 38 #[.int .i64 (rS L2 m2), .int .u8 (rB L2 m2 8), .int .u8 (rB L2 m2 9), .int .u8 (rB L2 m2 10), .int .i64 (rN L2 m2 11), .int .i64 (rN L2 m2 19), .int .i64 (rN L2 m2 27), .int .i64 (rN L2 m2 35)]).cell rfl
    have k8 : ∀ o, (w8.alloc (.cells #[.int .i64 (rS L2 m2), .int .u8 (rB L2 m2 8), .int .u8 (rB L2 m2 9), .int .u8 (rB L2 m2 10), .int .i64 (rN L2 m2 11), .int .i64 (rN L2 m2 19), .int .i64 (rN L2 m2 27), .int .i64 (rN L2 m2 35)] 43)).cell? ⟨w8.heap.size, o, none⟩ = (#[.int .i64 (rS L2 m2), .int .u8 (rB L2 m2 8), .int .u8 (rB L2 m2 9), .int .u8 (rB L2 m2 10), .int .i64 (rN L2 m2 11), .int .i64 (rN L2 m2 19), .int .i64 (rN L2 m2 27), .int .i64 (rN L2 m2 35)] : Array Value)[o]? := (Blk.new w8 43 #[.int .i64 (rS L2 m2), .int .u8 (rB L2 m2 8), .int .u8 (rB L2 m2 9), .int .u8 (rB L2 m2 10), .int .i64 (rN L2 m2 11), .int .i64 (rN L2 m2 19), .int .i64 (rN L2 m2 27), .int .i64 (rN L2 m2 35)]).cell
    have hB8 : Below wc.heap.size wc (w8.alloc (.cells #[.int .i64 (rS L2 m2), .int .u8 (rB L2 m2 8), .int .u8 (rB L2 m2 9), .int .u8 (rB L2 m2 10), .int .i64 (rN L2 m2 11), .int .i64 (rN L2 m2 19), .int .i64 (rN L2 m2 27), .int .i64 (rN L2 m2 35)] 43)) := Ba (Bt (Ba hb7) hb8)
    generalize (w8.alloc (.cells #[.int .i64 (rS L2 m2), .int .u8 (rB L2 m2 8), .int .u8 (rB L2 m2 9), .int .u8 (rB L2 m2 10), .int .i64 (rN L2 m2 11), .int .i64 (rN L2 m2 19), .int .i64 (rN L2 m2 27), .int .i64 (rN L2 m2 35)] 43)) = W8 at *
    have HB8 := Lib.hid hB8
    clear hb7 hb8 hc7 hf7 hz7 hc8 hf8 hz8 hB8
    go_wp2
    go_ret
    exact ⟨ret_bool (by simp), Bt HBc.out HB8.out⟩
end Go.Proofs.Ytgnajpoebooafaa
