/-
The engine, part 3: contracts, calls, the beginning and the end of a function. Conditions: each lemma's own.
-/
import Derived.Test.YtpleflcfaecojaaGreatE2
namespace Go.Proofs.YtpleflcfaecojaaGreat
set_option linter.unusedVariables false
set_option linter.unusedSimpArgs false
open Go.RowKit
def Ctr (P : Program) (f : FuncId) (args : List Value) (g : Gh) (own : Own) (post : Value → Psi → Own → Prop) : Prop :=
  ∀ w, St w g own → Calls P f args.toArray w fun e w' => ∃ v g' own', e = .returned v ∧ g.le g' ∧ St w' g' own' ∧ post v g'.b own'
theorem Ctr.mono {P : Program} {f : FuncId} {args : List Value} {g : Gh} {own : Own} {post post' : Value → Psi → Own → Prop} (h : Ctr P f args g own post) (hp : ∀ v p o, g.b.le p → post v p o → post' v p o) : Ctr P f args g own post' :=
  fun w hs => (h w hs).mono fun e w' ⟨v, g', own', he, hle, hs', h1⟩ => ⟨v, g', own', he, hle, hs', hp _ _ _ hle.b h1⟩
theorem Own.ids_perm {a b : Own} (h : a.Perm b) : (Own.ids a).Perm (Own.ids b) := h.filterMap _
def Psi.addAll (p : Psi) (rest : Own) : Psi := { p with m := fun b => match rest.find? (fun x => match x with | some k => k.g == b | none => false) with | some (some k) => some k.obj | _ => p.m b }
theorem addAll_of {p : Psi} {rest : Own} (hn : rest.ids.Nodup) {k : Bk} (hk : some k ∈ rest) : (p.addAll rest).m k.g = some k.obj := by
  have : rest.find? (fun x => match x with | some j => j.g == k.g | none => false) = some (some k) := by
    induction rest with
    | nil => cases hk
    | cons x l ih =>
      rw [Own.ids_cons] at hn
      cases x with
      | none =>
        simp only [List.find?_cons]
        rcases List.mem_cons.1 hk with e | e
        · cases e
        · exact ih (by simpa using hn) e
      | some j =>
        simp only [List.find?_cons]
        rcases List.mem_cons.1 hk with e | e
        · injection e with e; subst e; simp
        · have hne : j.g ≠ k.g := fun eq => by
            simp at hn
            exact hn.1 (eq ▸ Own.mem_ids e)
          have : (j.g == k.g) = false := by simpa using hne
          rw [this]
          exact ih (by simp at hn; exact hn.2) e
  simp [Psi.addAll, this]
theorem addAll_not {p : Psi} {rest : Own} {b : Nat} (h : ∀ k, some k ∈ rest → k.g ≠ b) : (p.addAll rest).m b = p.m b := by
  have : rest.find? (fun x => match x with | some j => j.g == b | none => false) = none := by
    rw [List.find?_eq_none]
    intro x hx
    cases x with
    | none => simp
    | some k => simpa using h k hx
  simp [Psi.addAll, this]
theorem St.lend {w : World} {g : Gh} {sel rest : Own} (h : St w g (sel ++ rest)) : ∃ gl : Gh, gl.r = g.r.addAll rest ∧ gl.b = g.b ∧ St w gl sel ∧ g.r.le gl.r := by
  have hids : Own.ids (sel ++ rest) = Own.ids sel ++ Own.ids rest := List.filterMap_append
  have hn := h.nodup
  rw [hids, List.nodup_append] at hn
  obtain ⟨n1, n2, n3⟩ := hn
  have hle : g.r.le (g.r.addAll rest) := ⟨rfl, rfl, rfl, fun b o e => by
    rw [addAll_not fun k hk eq => by have := h.free k (List.mem_append_right _ hk); rw [eq, e] at this; cases this]
    exact e⟩
  refine ⟨⟨g.r.addAll rest, g.b, g.br.trans hle⟩, rfl, rfl, ⟨⟨h.r.os, h.r.tape, h.r.out, fun b o e => ?_⟩, n1, fun k hk => h.has k (List.mem_append_left _ hk), fun k hk => ?_⟩, hle⟩
  · by_cases hb : ∃ k, some k ∈ rest ∧ k.g = b
    · obtain ⟨k, hk, rfl⟩ := hb
      have e : (g.r.addAll rest).m k.g = some o := e
      rw [addAll_of n2 hk] at e
      rw [← e]; exact h.has k (List.mem_append_right _ hk)
    · have e : (g.r.addAll rest).m b = some o := e
      rw [addAll_not fun k hk eq => hb ⟨k, hk, eq⟩] at e
      exact h.r.m b o e
  · show (g.r.addAll rest).m k.g = none
    rw [addAll_not fun j hj eq => n3 _ (Own.mem_ids hk) _ (Own.mem_ids hj) eq.symm]
    exact h.free k (List.mem_append_left _ hk)
def Psi.merge (p q : Psi) : Psi := { p with m := fun b => match q.m b with | some o => some o | none => p.m b }
theorem St.unlend {w w' : World} {g gl g1 : Gh} {sel rest sel' : Own} (h : St w g (sel ++ rest)) (er : gl.r = g.r.addAll rest) (eb : gl.b = g.b) (hle : gl.le g1) (h' : St w' g1 sel') (hl : g.r.le gl.r) :
    ∃ g2 : Gh, g2.b = g1.b ∧ g.le g2 ∧ St w' g2 (sel' ++ rest) := by
  have hids : Own.ids (sel ++ rest) = Own.ids sel ++ Own.ids rest := List.filterMap_append
  have hids' : Own.ids (sel' ++ rest) = Own.ids sel' ++ Own.ids rest := List.filterMap_append
  have hn := h.nodup
  rw [hids, List.nodup_append] at hn
  obtain ⟨n1, n2, n3⟩ := hn
  have hin : g.r.In w' := (h'.r.mono hle.r).mono hl
  have hinb : g1.b.In w' := h'.r.mono g1.br
  have hrest : ∀ k, some k ∈ rest → g1.r.m k.g = some k.obj := fun k hk => hle.r.m _ _ (by rw [er]; exact addAll_of n2 hk)
  have hfree : ∀ k, some k ∈ rest → g1.b.m k.g = none := fun k hk => by
    cases e : g1.b.m k.g with
    | none => rfl
    | some o =>
      exfalso
      rcases hle.apart k.g (by rw [e]; simp) with h1 | h1
      · rw [eb] at h1
        exact h1 (g.br.none_ (h.free k (List.mem_append_right _ hk)))
      · rw [er, addAll_of n2 hk] at h1
        cases h1
  have hbr : g1.b.le (g.r.merge g1.b) := ⟨hin.os.symm.trans hinb.os, hin.tape.symm.trans hinb.tape, hin.out.symm.trans hinb.out, fun b o e => by
    show (match g1.b.m b with | some o => some o | none => g.r.m b) = some o
    rw [e]⟩
  have hle' : g.le ⟨g.r.merge g1.b, g1.b, hbr⟩ := by
    refine ⟨⟨rfl, rfl, rfl, fun b o e => ?_⟩, eb ▸ hle.b, fun k hk => ?_⟩
    · show (match g1.b.m b with | some o => some o | none => g.r.m b) = some o
      cases e2 : g1.b.m b with
      | none => exact e
      | some o2 => rw [← hinb.m b o2 e2, hin.m b o e]
    · rcases hle.apart k hk with h1 | h1
      · exact .inl (eb ▸ h1)
      · exact .inr (hl.none_ h1)
  refine ⟨⟨g.r.merge g1.b, g1.b, hbr⟩, rfl, hle', ⟨⟨hin.os, hin.tape, hin.out, fun b o e => ?_⟩, ?_, fun k hk => ?_, fun k hk => ?_⟩⟩
  · have e : (match g1.b.m b with | some o => some o | none => g.r.m b) = some o := e
    cases e2 : g1.b.m b with
    | none => rw [e2] at e; exact hin.m b o e
    | some o2 => rw [e2] at e; rw [← e]; exact hinb.m b o2 e2
  · rw [hids', List.nodup_append]
    refine ⟨h'.nodup, n2, fun a ha b hb eq => ?_⟩
    obtain ⟨k, hk, rfl⟩ := Own.of_ids ha
    obtain ⟨j, hj, rfl⟩ := Own.of_ids hb
    have := h'.free k hk
    rw [eq, hrest j hj] at this
    cases this
  · rcases List.mem_append.1 hk with e | e
    · exact h'.has k e
    · exact h'.r.m _ _ (hrest k e)
  · show (match g1.b.m k.g with | some o => some o | none => g.r.m k.g) = none
    rcases List.mem_append.1 hk with e | e
    · have h1 := h'.free k e
      rw [g1.br.none_ h1]
      exact (hl.trans hle.r).none_ h1
    · rw [hfree k e]
      exact h.free k (List.mem_append_right _ e)
section
variable {P : Program} {ops : Array Oper} {Q : Exit → Act → World → Prop} {n : Nat} {g : Gh} {own : Own} {sl : Sl} {ty : TypeId}
def enters (P : Program) (f : FuncId) : Bool :=
  match P.funcs[f]? with
  | some fn => fn.body.isSome && !(fn.name == "runtime.NumGoroutine")
  | none => false
theorem run_callFunc_of {f : FuncId} (h : enters P f = true) (args : Array Value) (w : World) : (callFunc f args).run P w = .ok (.enter f args) w := by
  unfold enters at h
  cases e : P.funcs[f]? with
  | none => rw [e] at h; cases h
  | some fn =>
    rw [e] at h
    simp only [Bool.and_eq_true, Bool.not_eq_true'] at h
    have hb : fn.body.isNone = false := by cases hb : fn.body <;> simp_all
    have h3 : fn.name ≠ "runtime.NumGoroutine" := by simpa using h.2
    have h4 : fn.body ≠ none := by cases hb2 : fn.body <;> simp_all
    simp [callFunc, program, bind, Sem.bind, Sem.run, e, pure]
    rw [if_neg h3, if_neg h4]
def Ctr0 (P : Program) (f : FuncId) (args : List Value) (g : Gh) (post : Value → Psi → Prop) : Prop := Ctr P f args g [] (fun v p o => o = [] ∧ post v p)
theorem Ctr0.mono {f : FuncId} {args : List Value} {post post' : Value → Psi → Prop} (h : Ctr0 P f args g post) (hp : ∀ v p, g.b.le p → post v p → post' v p) : Ctr0 P f args g post' :=
  Ctr.mono h fun v p o hl ⟨h1, h2⟩ => ⟨h1, hp v p hl h2⟩
def RetR (g : Gh) (post : Value → Psi → Own → Prop) (e : Ending) (w' : World) : Prop := ∃ v g' own', e = .returned v ∧ g.le g' ∧ St w' g' own' ∧ post v g'.b own'
def Fin (P : Program) (fn : Func) (g : Gh) (post : Value → Psi → Own → Prop) : Exit → Act → World → Prop := bodyPost P fn (RetR g post)
def argS : Nat → List Value → Sl
  | _, [] => []
  | i, v :: vs => (i, v) :: argS (i + 1) vs
theorem argS_get {vs : List Value} : ∀ {i t : Nat} {v : Value}, getS (argS i vs) t = some v → i ≤ t ∧ vs[t - i]? = some v := by
  induction vs with
  | nil => intro i t v h; cases h
  | cons u vs ih =>
    intro i t v h
    simp only [argS, getS] at h
    cases hb : Nat.beq i t with
    | true =>
      rw [hb] at h
      have e := Nat.eq_of_beq_eq_true hb
      subst e
      simpa using h
    | false =>
      rw [hb] at h
      have hne : i ≠ t := fun e => by subst e; simp at hb
      obtain ⟨h1, h2⟩ := ih (i := i + 1) (t := t) (v := v) (by simpa using h)
      refine ⟨by omega, ?_⟩
      rw [show t - i = (t - (i + 1)) + 1 by omega]
      simpa using h2
theorem ctr_of {f : FuncId} (fn : Func) (c : Code) (n : Nat) (vs : List Value) {post : Value → Psi → Own → Prop} (hf : P.funcs[f]? = some fn) (hb : fn.body = some c) (hn : fn.ntmps = n) (hl : Nat.ble vs.length n = true)
    (h : WPc P c (Fin P fn g post) n g own (argS 0 vs)) : Ctr P f vs g own post := by
  intro w hs
  refine calls_of_wp hf hb ?_
  refine h _ w ⟨?_, rfl, fun t v hv => ?_⟩ hs
  · have : vs.length ≤ n := by simpa using hl
    simp [hn]; omega
  · obtain ⟨_, h2⟩ := argS_get hv
    have hlt : t < vs.length := by
      rcases Nat.lt_or_ge t vs.length with h3 | h3
      · exact h3
      · rw [Nat.sub_zero, List.getElem?_eq_none h3] at h2; cases h2
    rw [Array.getElem?_append_left (by simpa using hlt)]
    simpa using h2
def resRun (tmps : Array Value) : ResultVar → Sem Value
  | .tmp t => pure (tmps.getD t undef)
  | .cell x t => do loadVar t (← asAddr (tmps.getD x undef))
def ResOk (P : Program) (own : Own) (sl : Sl) (rs : List ResultVar) (vs : List Value) : Prop :=
  ∀ n a w, Fr n a sl → Has w own → (rs.mapM (resRun a.tmps)).run P w = .ok vs w
theorem res_nil : ResOk P own sl [] [] := fun n a w hf hh => by simp
theorem res_cons {r : ResultVar} {v : Value} {rs : List ResultVar} {vs : List Value} (h : ∀ n a w, Fr n a sl → Has w own → (resRun a.tmps r).run P w = .ok v w) (k : ResOk P own sl rs vs) : ResOk P own sl (r :: rs) (v :: vs) := by
  intro n a w hf hh
  simp only [List.mapM_cons]
  simp [h n a w hf hh, k n a w hf hh]
theorem res_tmp {t : Tmp} {v : Value} {rs : List ResultVar} {vs : List Value} (h : getS sl t = some v) (k : ResOk P own sl rs vs) : ResOk P own sl (.tmp t :: rs) (v :: vs) :=
  res_cons (fun n a w hf hh => by simp [resRun, Array.getD_eq_getD_getElem?, hf.at_ _ _ h]) k
theorem res_cell1 {x : Tmp} {t : TypeId} {b off i : Nat} {kb : Bk} {v : Value} {rs : List ResultVar} {vs : List Value} (h : getS sl x = some (.pointer (some ⟨b, off, none⟩))) (hi : own[i]? = some (some kb)) (hg : kb.g = b) (ht : flatOf P t = true) (hv : kb.cs[off]? = some v) (k : ResOk P own sl rs vs) : ResOk P own sl (.cell x t :: rs) (v :: vs) :=
  res_cons (fun n a w hf hh => by
    subst hg
    simp [resRun, Array.getD_eq_getD_getElem?, hf.at_ _ _ h, asAddr, run_loadVar_flat ht ((hh.cell (Own.get_mem hi) off).trans hv)]) k
theorem res_cellA {x : Tmp} {t : TypeId} {b off i : Nat} {kb : Bk} {cs : List Value} {rs : List ResultVar} {vs : List Value} (h : getS sl x = some (.pointer (some ⟨b, off, none⟩))) (hi : own[i]? = some (some kb)) (hg : kb.g = b) (ht : aggOf P t = some cs.length) (hv : (kb.cs.drop off).take cs.length = cs) (k : ResOk P own sl rs vs) : ResOk P own sl (.cell x t :: rs) (.agg cs.toArray :: vs) :=
  res_cons (fun n a w hf hh => by
    subst hg
    have e : (loadVar t ⟨kb.g, off, none⟩).run P w = .ok (.agg cs.toArray) w := run_loadVar_agg ht fun j v hj => by
      rw [addr_add, hh.cell (Own.get_mem hi)]
      rw [← hv] at hj
      exact take_drop_get hj
    simp [resRun, Array.getD_eq_getD_getElem?, hf.at_ _ _ h, asAddr, e]) k
def tupled : List Value → Value
  | [v] => v
  | vs => .tuple vs.toArray
theorem run_results {fn : Func} {rs : List ResultVar} {vs : List Value} (hr : fn.results = rs.toArray) (h : ResOk P own sl rs vs) {a : Act} {w : World} (hf : Fr n a sl) (hh : Has w own) : (results fn a.tmps).run P w = .ok (tupled vs) w := by
  have := h n a w hf hh
  have e : results fn a.tmps = (do let vs ← fn.results.mapM (resRun a.tmps); pure (if h : vs.size = 1 then vs[0] else .tuple vs)) := rfl
  rw [e, hr, List.mapM_toArray]
  simp [this]
  match vs with
  | [] => rfl
  | [v] => rfl
  | _ :: _ :: _ => simp [tupled]
end
end Go.Proofs.YtpleflcfaecojaaGreat
