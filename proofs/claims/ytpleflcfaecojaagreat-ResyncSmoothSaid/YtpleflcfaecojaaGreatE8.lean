/-
The engine, part 8: what came in, read as data; a law's call out of its contract. Conditions: each lemma's own.
-/
import Derived.Test.YtpleflcfaecojaaGreatE7
import Derived.ProofKit
import Derived.OpenShut
import Derived.Handy
import Derived.ChangeSame
import Derived.Deep.Slices
import Derived.IntWalk
import Derived.SizedLaws
namespace Go.Proofs.YtpleflcfaecojaaGreat
set_option linter.unusedVariables false
set_option linter.unusedSimpArgs false
open Go.RowKit Go.WideShapes Go.ChangeShapes Go.Deep
def psiOf (w : World) : Psi := ⟨fun b => w.heap[b]?, w.os, w.tape, w.output⟩
def gh0 (w : World) : Gh := ⟨psiOf w, psiOf w, .refl _⟩
theorem st0 (w : World) : St w (gh0 w) [] := ⟨⟨rfl, rfl, rfl, fun b o h => h⟩, List.nodup_nil, fun k h => (by cases h), fun k h => (by cases h)⟩
theorem below_of {w w' : World} {g : Gh} (h : (gh0 w).le g) (hs : St w' g []) : Below w.heap.size w w' := by
  have hin := hs.r.mono h.r
  have hb : ∀ b, b < w.heap.size → w'.heap[b]? = w.heap[b]? := fun b hb => by
    rw [Array.getElem?_eq_getElem hb]
    exact hin.m b _ (Array.getElem?_eq_getElem hb)
  refine ⟨hin.os, hin.tape, hin.out, ?_, hb⟩
  rcases Nat.eq_zero_or_pos w.heap.size with h0 | h0
  · omega
  · have h1 := hb (w.heap.size - 1) (by omega)
    have hlt : w.heap.size - 1 < w.heap.size := by omega
    rw [Array.getElem?_eq_getElem hlt] at h1
    have := (Array.getElem?_eq_some_iff.1 h1).1
    omega
theorem law_of_ctr {P : Program} {f : FuncId} {args : List Value} {w : World} (h : Ctr0 P f args (gh0 w) (fun v ψ => v = Value.bool true)) : Calls P f args.toArray w fun e w' => e = .returned (.bool true) ∧ Below w.heap.size w w' :=
  (h w (st0 w)).mono fun e w' ⟨v, g', own', he, hle, hs, ho, hv⟩ => by
    subst ho; subst hv
    exact ⟨he, below_of hle hs⟩
def Opens {α : Type} (P : Program) (t : TypeId) (T : Ty α) (ok : α → Prop) : Prop :=
  ∀ {H : Type} {enc : TypeId × Value → H} {w : World} {base : Nat} {spare : Nat → Bool} {held : Bool} {fuel : Nat} {cs : List Value} {d : DataW H} {pl : List MemPlace},
    DataW.trod enc P w base spare held fuel t cs = some (d, pl) → (∀ m ∈ d.weights P t, m ≤ reachBytes) → ∃ x, T.rep (psiOf w) cs x ∧ ok x
section
variable {P : Program} {t e : TypeId} {α : Type} {T : Ty α} {ok : α → Prop}
theorem lit_wf {k : IntKind} {n : Int} (h : (Lit.int k n).wf = true) : inK k n := by
  simp only [Lit.wf, Bool.and_eq_true, decide_eq_true_eq] at h
  exact h
theorem opens_int {k : IntKind} (ht : P.underlying t = some (.int k)) : Opens P t (tyI k) (inK k) := fun h _ => by
  obtain ⟨n, rfl, _, hwf⟩ := DataW.trod_int ht h
  exact ⟨n, rfl, lit_wf hwf⟩
theorem opens_u8 (ht : P.underlying t = some (.int .u8)) : Opens P t tyU8 (fun _ => True) := fun h _ => by
  obtain ⟨n, rfl, _, hwf⟩ := DataW.trod_int ht h
  have := lit_wf hwf
  have h2 : 0 ≤ n ∧ n ≤ 255 := by simpa [inK, IntKind.min, IntKind.max, IntKind.signed, IntKind.bits] using this
  exact ⟨u8 n, u8_rep h2, trivial⟩
theorem opens_bool (ht : P.underlying t = some .bool) : Opens P t tyB (fun _ => True) := fun h _ => by
  obtain ⟨b, rfl, _⟩ := DataW.trod_bool ht h
  exact ⟨b, rfl, trivial⟩
theorem weightsAll_mem {H : Type} : ∀ {ds : List (DataW H)} {d : DataW H} {n : Nat}, d ∈ ds → n ∈ d.weights P e → n ∈ DataW.weightsAll P e ds
  | x :: ds, d, n, hd, hn => by
    rw [DataW.weightsAll]
    rcases List.mem_cons.1 hd with rfl | h
    · exact List.mem_append_left _ hn
    · exact List.mem_append_right _ (weightsAll_mem h hn)
theorem opens_slice (he : Opens P e T ok) (ht : P.underlying t = some (.slice e)) (hc : P.cellsOf e = T.n) (hb : Nat.blt 0 (P.bytesOf e) = true) : Opens P t (tyArr T) (fun xs => ∀ x ∈ xs, ok x) := by
  intro H enc w base spare held fuel cs d pl h hw
  rcases open_slice ht h with ⟨rfl, _⟩ | ⟨a, len, cap, m, n, D, Pl, rfl, hbs, hl, hm, hmm, hx, hi⟩
  · exact ⟨[], ⟨none, 0, rfl, Arr.nil⟩, by simp⟩
  · have hlm : len ≤ m := by rw [hmm]; split <;> omega
    injection hx with hd _
    subst hd
    simp only [DataW.weights, ht] at hw
    have hlen : len ≤ 140737488355328 := by
      have := hw _ (List.mem_cons_self ..)
      simp only [List.length_map, List.length_range, reachBytes] at this
      have h1 : len ≤ len + (m - len) := Nat.le_add_right _ _
      have hb' : 0 < P.bytesOf e := by simpa using hb
      have h2 : len + (m - len) ≤ (len + (m - len)) * P.bytesOf e := Nat.le_mul_of_pos_right _ hb'
      omega
    have key : ∀ k, k ≤ len → ∃ cs xs, xs.length = k ∧ Reps T (psiOf w) cs xs ∧ (∀ x ∈ xs, ok x) ∧ ∀ j u, cs[j]? = some u → w.cell? (a.add j) = some u := by
      intro k
      induction k with
      | zero => intro _; exact ⟨[], [], rfl, rfl, by simp, by simp⟩
      | succ k ih =>
        intro hk
        obtain ⟨cs, xs, h1, h2, h3, h4⟩ := ih (by omega)
        obtain ⟨cs', hcells, htr⟩ := hi k (by omega)
        obtain ⟨_, hlen', hat⟩ := World.cells?_some hcells
        obtain ⟨x, hx, hok⟩ := he htr fun n hn => hw n (List.mem_cons_of_mem _ (List.mem_append_left _ (weightsAll_mem (List.mem_map.2 ⟨k, by simp; omega, rfl⟩) hn)))
        refine ⟨cs ++ cs', xs ++ [x], by simp [h1], h2.append (.single hx), ?_, fun j u hu => ?_⟩
        · intro y hy
          rcases List.mem_append.1 hy with h | h
          · exact h3 y h
          · simp only [List.mem_singleton] at h; subst h; exact hok
        · rcases Nat.lt_or_ge j cs.length with hj | hj
          · rw [List.getElem?_append_left hj] at hu
            exact h4 j u hu
          · rw [List.getElem?_append_right hj] at hu
            have hcl : cs.length = k * P.cellsOf e := by rw [h2.len, h1, hc]
            have hjl : j - cs.length < P.cellsOf e := by
              have := (List.getElem?_eq_some_iff.1 hu).1
              omega
            have hge : k * P.cellsOf e ≤ j := by rw [← hcl]; exact hj
            have := hat (j - cs.length) hjl
            rw [hcl] at this hu
            rw [add_add, show k * P.cellsOf e + (j - k * P.cellsOf e) = j by omega] at this
            rw [this]
            exact hu
    obtain ⟨cs, xs, h1, h2, h3, h4⟩ := key len (Nat.le_refl _)
    refine ⟨xs, ⟨some a, cap, by rw [h1], ⟨by rw [h1]; exact hl, by rw [h1]; exact hlen, cs, h2, fun _ => ⟨a, rfl, fun j v hj => ?_⟩⟩⟩, h3⟩
    have := h4 j v hj
    unfold World.cell? at this
    unfold Psi.cell? psiOf
    exact this
theorem struct_fields {H : Type} {enc : TypeId × Value → H} {w : World} {base : Nat} {spare : Nat → Bool} {held : Bool} {fuel : Nat} {cs : List Value} {d : DataW H} {pl : List MemPlace} {fs : Array Field} (ht : P.underlying t = some (.struct fs))
    (h : DataW.trod enc P w base spare held fuel t cs = some (d, pl)) (hw : ∀ m ∈ d.weights P t, m ≤ reachBytes) :
    cs.length = P.cellsOf t ∧ ∀ (i : Nat) (f : Field), fs[i]? = some f → ∃ n d' pl', DataW.trod enc P w base spare held n f.type ((cs.drop f.offset).take (P.cellsOf f.type)) = some (d', pl') ∧ ∀ m ∈ d'.weights P f.type, m ≤ reachBytes := by
  obtain ⟨xs, n, _, hx, hlen, hxl, hf⟩ := DataW.trod_struct ht h
  injection hx with hd _
  subst hd
  simp only [DataW.weights, ht] at hw
  refine ⟨hlen, fun i f hi => ?_⟩
  have hlt : i < xs.length := by rw [hxl]; exact (Array.getElem?_eq_some_iff.1 hi).1
  refine ⟨n, (xs[i]).1, (xs[i]).2, (hf i f hi).trans (List.getElem?_eq_getElem hlt), fun m hm => hw m ?_⟩
  exact DataW.weights_mem_each (j := i) (by rw [List.getElem?_map, Array.getElem?_toList, hi]; rfl) (by rw [List.getElem?_map, List.getElem?_eq_getElem hlt]; rfl) m hm
end
section
variable {H : Type} {enc : TypeId × Value → H} {P : Program}
theorem trodAll_stays (hl : laidOutB P = true) {W W' : World} {sp' : Nat → Bool} : ∀ {ts : List TypeId} {vs : List Value} {ds : List (DataW H)} {ps : List MemPlace},
    (∀ t ∈ ts, P.readableRec t = true ∧ t < P.types.size) → DataW.TrodAll enc P W 0 (fun _ => true) true ts vs ds ps → (∀ p ∈ ps, W.sameAt W' p) → (∀ p ∈ ps, sp' p.block = true) →
    DataW.TrodAll enc P W' 0 sp' true ts vs ds ps
  | [], vs, ds, ps, _, h, _, _ => by
    obtain ⟨rfl, rfl, rfl⟩ := trodAll_nil h
    exact trodAll_mk0
  | t :: ts, vs, ds, ps, hr, h, hs, hp => by
    obtain ⟨v, vs1, d, ds1, a, b, rfl, rfl, rfl, h1, h2⟩ := trodAll_cons h
    refine ⟨a, b, WideElems.Trod_stays hl (hr t (by simp)).1 (hr t (by simp)).2 h1 (fun p hp' => hs p (by simp [hp'])) (fun p hp' => hp p (by simp [hp'])), ?_, rfl⟩
    exact trodAll_stays hl (fun t' ht' => hr t' (by simp [ht'])) h2 (fun p hp' => hs p (by simp [hp'])) (fun p hp' => hp p (by simp [hp']))

theorem post_of_below {f : Func} {s : ChangeSpec} {apart fresh handsOn again : Bool} {W W' : World} {args : Array Value} {v : Value} {ds gs : List (DataW H)} {before pa pv : List MemPlace}
    (hW : DataW.Whole enc P f.params.toList s.vars apart W args.toList ds gs before)
    (hres : ∀ (b : Nat) (sp : Nat → Bool) (hd : Bool), DataW.TrodAll enc P W' b sp hd f.resultTypes.toList (v.resultList f.resultTypes.size) (s.fn H (ds ++ gs)).results [])
    (hargs : ∀ sp : Nat → Bool, (∀ p ∈ before, sp p.block = true) → DataW.TrodAll enc P W' 0 sp true f.params.toList args.toList (s.fn H (ds ++ gs)).args pa)
    (hvars : ∀ sp : Nat → Bool, (∀ p ∈ before, sp p.block = true) → DataW.TrodVars enc P W' sp s.vars (s.fn H (ds ++ gs)).vars pv)
    (hps : before = pa ++ pv) (hb : Below W.heap.size W W')
    (hok : ∀ (j : Nat) (t : TypeId) (r : Value), f.resultTypes[j]? = some t → (v.resultList f.resultTypes.size)[j]? = some r → Value.okWide P W' .any 0 t r) :
    s.post enc P f apart fresh handsOn again W args v W' := by
  have hlt : ∀ p ∈ before, p.block < W.heap.size := fun p hp => hW.lt p hp
  have hold : ∀ p ∈ before, (fun b => decide (b < W.heap.size)) p.block = true := fun p hp => by simpa using hlt p hp
  refine ⟨ds, gs, before, [], pa, pv, hW, hres _ _ _, hargs _ hold, hvars _ hold, World.keptBut_mono (fun p hp => ⟨hp, ?_⟩) (hb.frame (· ∈ before)), fun _ => ?_⟩
  · rw [hps, List.mem_append] at hp
    exact Or.inr hp
  · obtain ⟨_, _, _, _, _, hz, hn⟩ := hW
    refine ⟨hok, _, _, ([] ++ pa) ++ pv, ⟨[] ++ pa, pv, trodAll_append (hargs _ (fun _ _ => rfl)) (hres _ _ _), hvars _ (fun _ _ => rfl), rfl, ?_, ?_⟩, ?_⟩
    · intro b off hp
      have hin : MemPlace.cell b off ∈ before := by rw [hps]; simpa using hp
      rw [hb.frozen (hlt _ hin)]
      exact hz b off hin
    · intro ha
      have := hn ha
      rw [hps] at this
      simpa using this
    · intro p hp _
      rw [hps]
      simpa using hp
theorem law_post {b : TypeId} (hl : laidOutB P = true) {f : Func} {s : ChangeSpec} {apart fresh handsOn again : Bool} {W W' : World} {args : Array Value} {ds : List (DataW H)} {before : List MemPlace}
    (hr : ∀ t ∈ f.params.toList, P.readableRec t = true ∧ t < P.types.size) (hv : s.vars = []) (hbool : f.resultTypes = #[b]) (hb4 : P.underlying b = some .bool)
    (hfn : s.fn H (ds ++ []) = { results := [.lit (.bool true)], args := ds })
    (hW : DataW.Whole enc P f.params.toList s.vars apart W args.toList ds [] before)
    (hA : DataW.TrodAll enc P W 0 (fun _ => true) true f.params.toList args.toList ds before)
    (hb : Below W.heap.size W W') : s.post enc P f apart fresh handsOn again W args (.bool true) W' := by
  have hlt : ∀ p ∈ before, p.block < W.heap.size := fun p hp => hW.lt p hp
  refine post_of_below (ds := ds) (gs := []) (pa := before) (pv := []) hW ?_ ?_ ?_ (by simp) hb ?_
  · intro b' sp hd
    rw [hfn, hbool]
    exact trodAll_mk1 (shut_bool hb4 _)
  · intro sp hsp
    rw [hfn]
    exact trodAll_stays hl hr hA (fun p hp => hb.same (hlt p hp)) hsp
  · intro sp _
    rw [hfn, hv]
    rfl
  · intro j t r hj hrj
    rw [hbool] at hj hrj
    exact ok_one (f := f) hbool rfl (okWide_bool_mk hb4 _) j t r (by rw [hbool]; exact hj) (by rw [hbool]; exact hrj)
end
end Go.Proofs.YtpleflcfaecojaaGreat
