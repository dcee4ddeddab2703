/-
The third engine, part 20: more operations; all of them. Conditions: each lemma's own.
-/
import Derived.Test.YtpleflcfaecojaaGreatH19
namespace Go.Proofs.YtpleflcfaecojaaGreat
set_option linter.unusedVariables false
set_option linter.unusedSimpArgs false
open Go.RowKit
section
variable {P : Program} {n : Nat} {ty : TypeId} {sl : List (Nat × SV)} {bl bl' : List BV} {v : SV} {f : Nat} {g : Gh} {ρ : Env} {own : Own} {fr : Sl}
def tText (P : Program) (sl : List (Nat × SV)) (s d : TypeId) (x : Operand) : Tr := match P.underlying s, P.underlying d with
  | some (.slice e), some .string => (match P.underlying e, evH sl x with
    | some (.int .u8), some (.v (.c (.own b))) => .need b fun
      | .row .y _ xs => retT (vC (.str xs))
      | .fz .y xs => retT (vC (.str xs))
      | _ => .no
    | some (.int .u8), some (.v (.c (.ro .y xs _))) => retT (vC (.str xs))
    | some (.int .u8), some (.v (.c (.k (.slice none 0 0)))) => retT (vC (.str []))
    | _, _ => .no)
  | _, _ => tConv P sl s d x
theorem ghostOf {w : World} {p : Psi} {own : Own} (h : Rdw w p own) : (⟨fun b => w.heap[b]?, w.os, w.tape, w.output⟩ : Psi).In w := ⟨rfl, rfl, rfl, fun b o h => h⟩
theorem y_textA {s d e : TypeId} {x : Operand} {A : Option Addr} {cap : Nat} {xs : List UInt8} (hx : evS fr x = some (.slice A xs.length cap)) (h : ArrM g.r g.b tyU8 A cap xs) (hs : P.underlying s = some (.slice e)) (he : P.underlying e = some (.int .u8)) (hd : P.underlying d = some .string) :
    Yld P n g.r own fr (.convert s d x) ty (.string (mkS xs)) := y_str hx (h.toArr g.br) hs he hd
theorem y_textB {s d e : TypeId} {x : Operand} {A : Option Addr} {cap : Nat} {xs : List UInt8} {k : Option Bk} {i : Nat} {et : TypeId} (hx : evS fr x = some (.slice A xs.length cap)) (hi : own[i]? = some k) (h : Buf g.b tyU8 et (.slice A xs.length cap) k xs) (hs : P.underlying s = some (.slice e)) (he : P.underlying e = some (.int .u8)) (hd : P.underlying d = some .string) :
    Yld P n g.r own fr (.convert s d x) ty (.string (mkS xs)) := by
  intro o a w h1 h2 hf hr
  have hk : ∀ b, k = some b → w.heap[b.g]? = some b.obj := fun b hb => by subst hb; exact hr.has b (List.mem_of_getElem? hi)
  have hp := ghostOf hr
  have hA : Arr (⟨fun b => w.heap[b]?, w.os, w.tape, w.output⟩ : Psi) tyU8 A cap xs := by
    have hle : g.b.le (⟨fun b => w.heap[b]?, w.os, w.tape, w.output⟩ : Psi) := ⟨hr.r.os.trans g.br.os, hr.r.tape.trans g.br.tape, hr.r.out.trans g.br.out, fun b o e => hr.r.m b o (g.br.m b o e)⟩
    exact arr_of_buf (h.mono hle) (.refl _) fun b hb => hk b hb
  exact y_str (own := own) hx hA hs he hd o a w h1 h2 hf ⟨hp, hr.has⟩
theorem tText_ok {s d : TypeId} {x : Operand} (h : Told f (tText P sl s d x) bl bl' v) : EffH P n (.convert s d x) ty sl bl bl' v := by
  unfold tText at h
  split at h
  · rename_i e hs hd
    split at h
    · rename_i b he ex
      obtain ⟨bv, hb, h⟩ := h
      dsimp only at h
      split at h
      · rename_i et xs
        obtain ⟨rfl, rfl⟩ := told_ret h
        refine .of_yld fun g ρ own fr hr => ?_
        obtain ⟨vx, hx1, hkn, q, rfl, hl⟩ := evH_real hr ex
        have hl := hl _ _ hb rfl
        subst hl
        obtain ⟨k0, hk, hB⟩ := hr.own_at hb
        have hB : Buf g.b tyU8 et (.slice (ρ b).1 (List.length (α := UInt8) xs) (ρ b).2) k0 xs := hB
        exact ⟨_, ⟨rfl, hB.len⟩, y_textB hx1 hk hB hs he hd⟩
      · rename_i xs
        obtain ⟨rfl, rfl⟩ := told_ret h
        refine .of_yld fun g ρ own fr hr => ?_
        obtain ⟨vx, hx1, hkn, q, rfl, hl⟩ := evH_real hr ex
        have hl := hl _ _ hb rfl
        subst hl
        obtain ⟨k0, hk, _, hB⟩ := hr.own_at hb
        have hB : Arr g.b tyU8 (ρ b).1 (ρ b).2 xs := hB
        exact ⟨_, ⟨rfl, hB.len⟩, y_textA hx1 (Arr.toM hB g.br) hs he hd⟩
      · exact h.elim
    · rename_i xs m he ex
      obtain ⟨rfl, rfl⟩ := told_ret h
      refine .of_yld fun g ρ own fr hr => ?_
      obtain ⟨vx, hx1, A, cap, rfl, ha⟩ := evH_real hr ex
      cases m with
      | true =>
        have ha : Arr g.b tyU8 A cap xs := ha
        exact ⟨_, ⟨rfl, ha.len⟩, y_textA hx1 (Arr.toM ha g.br) hs he hd⟩
      | false =>
        have ha : ArrM g.r g.b tyU8 A cap xs := ha
        exact ⟨_, ⟨rfl, ha.len⟩, y_textA hx1 ha hs he hd⟩
    · rename_i he ex
      obtain ⟨rfl, rfl⟩ := told_ret h
      refine .of_yld fun g ρ own fr hr => ?_
      obtain ⟨vx, hx1, rfl, _⟩ := evH_real hr ex
      exact ⟨_, ⟨rfl, by simp⟩, y_textA (xs := []) hx1 ArrM.nil hs he hd⟩
    · exact h.elim
  · exact tConv_ok h
def tIndex (P : Program) (sl : List (Nat × SV)) (t : TypeId) (x i : Operand) : Tr := asI sl i fun _ z => match P.underlying t, evH sl x with
  | some .string, some (.v (.c (.str xs))) => .grd (decide (0 ≤ z ∧ z < (xs.length : Int))) (retT (vC (.int .u8 ((xs.getD z.toNat 0).toNat : Int))))
  | some (.array len e), some (.v (.agg l)) => (match cellsOfT P e with
    | some m => splitZ z (fun i => readT P e l (i * m)) len 0
    | none => .no)
  | _, _ => .no
theorem tIndex_ok {t : TypeId} {x i : Operand} (h : Told f (tIndex P sl t x i) bl bl' v) : EffH P n (.index t x i) ty sl bl bl' v := by
  obtain ⟨k, z, ei, h⟩ := asI_told h
  split at h
  · rename_i xs hu ex
    obtain ⟨hg, h⟩ := h
    obtain ⟨rfl, rfl⟩ := told_ret h
    obtain ⟨hz, hlt⟩ := idx_of hg
    refine .of_yld fun g ρ own fr hr => ?_
    obtain ⟨vx, hx1, rfl, _⟩ := evH_real hr ex
    obtain ⟨vi', hi1, rfl, _⟩ := evH_real hr ei
    refine ⟨_, ⟨rfl, inK_u8 _⟩, fun o a w e1 e2 hf hr => ?_⟩
    have hge : (0 : Int) ≤ z := by omega
    have hb : (mkS xs)[z.toNat]? = some (xs.getD z.toNat 0) := by
      have h1 : z.toNat < (mkS xs).size := by rw [mkS_size]; exact hlt
      rw [getElem?_pos (mkS xs) z.toNat h1]
      congr 1
      rw [List.getD_eq_getElem?_getD, List.getElem?_eq_getElem hlt]
      rfl
    have : (Instr.index t (.string (mkS xs)) (.int k z)).run P w = .ok (.int .u8 ((xs.getD z.toNat 0).toNat : Int)) w := by
      simp only [Instr.index, asIntOf, run_underlying hu, Sem.run_bind, Sem.run_pure, Result.andThen_ok, if_pos hge, hb]
    simp [execOp, e1, hf.ev hx1, hf.ev hi1, this]
  · rename_i len e l hu ex
    split at h
    · rename_i m hm
      obtain ⟨j, hlt, ez, hj⟩ := splitZ_told h
      subst ez
      obtain ⟨rfl, e1⟩ := readT_told hj
      refine .of_yld fun g ρ own fr hr => ?_
      obtain ⟨vx, hx1, cs, rfl, hx2⟩ := evH_real hr ex
      obtain ⟨vi', hi1, rfl, _⟩ := evH_real hr ei
      obtain ⟨u, h1, h2⟩ := readL_part e1 hx2
      refine ⟨u, h1, fun o a w e1 e2 hf hr => ?_⟩
      have hr0 : (0 : Int) ≤ (j : Int) ∧ (j : Int) < (len : Int) := by omega
      have h2 : ∀ w, (part e cs.toArray ((j : Int).toNat * m)).run P w = .ok u w := h2
      have : (Instr.index t (.agg cs.toArray) (.int k (j : Int))).run P w = .ok u w := by
        simp only [Instr.index, asIntOf, run_underlying hu, Sem.run_bind, Sem.run_pure, Result.andThen_ok, if_pos hr0, run_sizeOf_of hm, h2]
      simp [execOp, e1, hf.ev hx1, hf.ev hi1, this]
    · exact h.elim
  · exact h.elim
def capH (sl : List (Nat × SV)) : CV → List Operand → Option CV
  | c, [] => some c
  | c, x :: l => match evH sl x with | some (.v (.c y)) => capH sl (.cap c y) l | _ => none
def tFn (sl : List (Nat × SV)) (fn : Fn) (first captured : List Operand) : Tr := match fn, first with
  | .func f, [] => (match capH sl (.fn f) captured with | some c => retT (vC c) | none => .no)
  | _, _ => .no
theorem capH_real (hr : Rl g ρ ⟨sl, bl⟩ own fr) {a : Act} (hf : Fr n a fr) : ∀ {l : List Operand} {c c' : CV} {f0 : Fn} {caps : List Value}, capH sl c l = some c' → RealC g ρ bl c (.func f0 #[] caps.toArray) → RealC g ρ bl c' (.func f0 #[] (caps ++ l.map a.eval).toArray)
  | [], c, c', f0, caps, h, hc => by injection h with h; subst h; simpa using hc
  | x :: l, c, c', f0, caps, h, hc => by
    unfold capH at h
    split at h
    · rename_i y hy
      obtain ⟨u, h1, h2⟩ := evH_real hr hy
      have := capH_real hr hf (f0 := f0) (caps := caps ++ [u]) h ⟨f0, caps.toArray, u, hc, h2, by simp⟩
      rw [List.map_cons, hf.ev h1]
      simpa using this
    · cases h
theorem tFn_ok {fn : Fn} {first captured : List Operand} (h : Told f (tFn sl fn first captured) bl bl' v) : EffH P n (.makeFunc fn first.toArray captured.toArray) ty sl bl bl' v := by
  unfold tFn at h
  split at h
  · rename_i f0
    split at h
    · rename_i c hc
      obtain ⟨rfl, rfl⟩ := told_ret h
      intro o a w Q K g ρ own fr h1 h2 hr hf hs hk
      have hv := capH_real hr hf (caps := []) (f0 := .func f0) hc rfl
      have hrun : (execOp a.eval o).run P w = .ok (.value (.func (.func f0) #[] (captured.map a.eval).toArray)) w := by
        simp [execOp, h1, Instr.makeFunc]
      unfold Oper.wp
      rw [hrun]
      simp only [Oper.upon]
      rw [List.nil_append] at hv
      exact hk _ g ρ own w (.refl g) .refl hs hr hv
    · exact h.elim
  · exact h.elim
def concT (P : Program) (t : TypeId) : Bool := match P.underlying t with
  | some (.interface _) => false
  | some _ => true
  | none => false
def tIfc (P : Program) (sl : List (Nat × SV)) (t : TypeId) (x : Operand) : Tr := match evH sl x, concT P t with
  | some (.v (.c c)), true => retT (vC (.ifc t c))
  | _, _ => .no
theorem tIfc_ok {t : TypeId} {x : Operand} (h : Told f (tIfc P sl t x) bl bl' v) : EffH P n (.makeInterface t x) ty sl bl bl' v := by
  unfold tIfc at h
  split at h
  · rename_i c ex hc
    obtain ⟨rfl, rfl⟩ := told_ret h
    refine .of_yld fun g ρ own fr hr => ?_
    obtain ⟨vx, hx1, hx2⟩ := evH_real hr ex
    refine ⟨.iface t vx, ⟨vx, hx2, rfl⟩, fun o ac w e1 e2 hf hr => ?_⟩
    have hm : (Instr.makeInterface t vx).run P w = .ok (.iface t vx) w := by
      unfold concT at hc
      cases hu : P.underlying t with
      | none => rw [hu] at hc; cases hc
      | some td =>
        rw [hu] at hc
        cases td <;> first | (cases hc; done) | simp [Instr.makeInterface, run_underlying hu]
    simp [execOp, e1, hf.ev hx1, hm]
  · exact h.elim
def sameT : Operand → Operand → Bool
  | .tmp a, .tmp b => Nat.beq a b
  | _, _ => false
theorem sameT_eq {x y : Operand} (h : sameT x y = true) : x = y := by
  cases x with
  | tmp a => cases y with
    | tmp b => rw [Nat.eq_of_beq_eq_true h]
    | _ => cases h
  | _ => cases h
def tMake (P : Program) (sl : List (Nat × SV)) (f : Nat) (t : TypeId) (x y : Operand) : Tr := match rowOf P t with
  | some (c, et, bytes) => asI sl x fun _ z => asI sl y fun _ z' => (match zeroOf P et with
    | some zs => (match constL zs.toList with
      | some l => .grd (sameT x y || decide (z = z')) (encC c l fun u r => .grd (decide (0 ≤ z ∧ z * bytes ≤ 140737488355328)) (.done ⟨vC (.own f), [], [.row c et (List.replicate z.toNat u)]⟩))
      | none => .no)
    | none => .no)
  | none => .no
theorem tMake_ok {t : TypeId} {x y : Operand} (hf : bl[f]? = some .hole) (h : Told f (tMake P sl f t x y) bl bl' v) : EffH P n (.makeSlice t x y) ty sl bl bl' v := by
  unfold tMake at h
  split at h
  · rename_i c et bytes hrow
    obtain ⟨hu, happ, _, hby⟩ := rowOf_ok hrow
    obtain ⟨k, z, ex, h0⟩ := asI_told h
    obtain ⟨k', z', ey, h1⟩ := asI_told h0
    clear h h0
    split at h1
    · rename_i zs hzs
      split at h1
      · rename_i l hl
        obtain ⟨hxy, h1⟩ := h1
        have hxy : z = z' := by
          cases hs : sameT x y with
          | true =>
            have := sameT_eq hs
            subst this
            rw [ex] at ey; injection ey with ey; injection ey with ey; injection ey with ey; injection ey
          | false => rw [hs, Bool.false_or] at hxy; exact of_decide_eq_true hxy
        subst hxy
        obtain ⟨u, r, bl1, h2, hfz, henc⟩ := encC_told c h1
        clear h1
        obtain ⟨hg, rfl, rfl⟩ := h2
        have hg := of_decide_eq_true hg
        refine EffH.frz hfz (effH_row (hfz.hole hf) fun g ρ own fr hr => ?_)
        obtain ⟨vx, hx1, rfl, _⟩ := evH_real hr ex
        obtain ⟨vy, hy1, rfl, _⟩ := evH_real hr ey
        have hz : z = ((z.toNat : Nat) : Int) := by omega
        have hall := constL_real (g := g) (ρ := ρ) (bl := bl1) hl
        obtain ⟨c1, c2, e1, e2, e3⟩ := henc.real hr c hall
        have hl1 : zs.toList.length = c.n := by
          have h1 := happ
          unfold appT at h1
          unfold zeroOf at hzs
          split at h1
          · rename_i e' i hu' hi
            split at h1
            · rename_i z0 hz0
              split at h1
              · rename_i hcnd
                simp only [Option.some.injEq, Prod.mk.injEq] at h1
                rw [hi] at hzs
                simp only [Option.bind_some, hz0, Option.map_some, Option.some.injEq] at hzs
                rw [← hzs, Array.length_toList, hcnd.2, h1.1, c.ty_n]
              · cases h1
            · cases h1
          · cases h1
        have hl2 : c1.length = c.n := by rw [c.ty.len e2, c.ty_n]
        have hc20 : c2 = [] := by
          have : zs.toList.length = c1.length + c2.length := by rw [e1, List.length_append]
          exact List.eq_nil_of_length_eq_zero (by omega)
        rw [hc20, List.append_nil] at e1
        have hbm : bytes * z.toNat ≤ 140737488355328 := by
          have : ((bytes * z.toNat : Nat) : Int) ≤ ((140737488355328 : Nat) : Int) := by
            rw [Int.natCast_mul, ← hz, Int.mul_comm]; exact hg.2
          exact Int.ofNat_le.1 this
        have hmz : z.toNat ≤ 140737488355328 := Nat.le_trans (Nat.le_mul_of_pos_left _ hby) hbm
        intro o a w Q K h1 h2 hfr hs hk
        refine e_make (T := c.ty) z.toNat (zs := c1) (z := u) happ (by rw [← hz]; exact hx1) (by rw [← hz]; exact hy1) (by rw [hzs, ← e1]) e2 (by omega) hmz o a w Q K h1 h2 hfr hs fun v' g' own' w' hg' hs' ⟨b, cs, e4, e5, e6, e7, e8⟩ => ?_
        exact hk v' g' own' w' hg' hs' ⟨_, _, _, by rw [e4, List.length_replicate], e5, e6, by rw [List.length_replicate]; exact e8⟩
      · exact h1.elim
    · exact h1.elim
  · exact h.elim
end
end Go.Proofs.YtpleflcfaecojaaGreat
