/-
One computer: what stays true of it. Conditions: each lemma's own.
-/
import Derived.Test.YtpleflcfaecojaaGreatC11
namespace Go.Proofs.YtpleflcfaecojaaGreat
set_option linter.unusedVariables false
set_option linter.unusedSimpArgs false
set_option maxRecDepth 100000
open Go.RowKit
theorem cond_p {α : Type} {P : α → Prop} {b : Bool} {x y : α} (hx : P x) (hy : P y) : P (cond b x y) := by cases b <;> assumption
theorem cond_pT {α : Type} {P : α → Prop} {b : Bool} {x y : α} (hx : b = true → P x) (hy : b = false → P y) : P (cond b x y) := by
  cases b with
  | true => exact hx rfl
  | false => exact hy rfl
structure Nd.ok (n : Nd) : Prop where
  inp : n.input.length ≤ 1000
  hinp : n.hd.input.length ≤ 400
  sin : n.se.in_.length ≤ 2000
structure Cp.ok2 (c : Cp) : Prop where
  data : ∀ p ∈ c.ps, p.2.2.2.length ≤ 600
  cps : c.co.ps.length ≤ 874
  cpd : ∀ x ∈ c.co.ps, x.length ≤ 600
  css : c.co.ss.length ≤ 874
  csd : ∀ x ∈ c.co.ss, x.2.2.2.length ≤ 2000
theorem Cp.ok.nd {c : Cp} (h : c.ok) : c.nd.ok := ⟨h.inp, h.hinp, h.sin⟩
theorem Cp.ok.rest {c : Cp} (h : c.ok) : c.ok2 := ⟨h.data, h.cps, h.cpd, h.css, h.csd⟩
theorem ok_of {c : Cp} (h1 : c.number = 1 ∨ c.number = 2) (h2 : c.nd.number = c.number) (h3 : c.nd.ok) (h4 : c.ok2) : c.ok := ⟨h1, h2, h3.inp, h3.hinp, h3.sin, h4.data, h4.cps, h4.cpd, h4.css, h4.csd⟩
theorem withNd {c : Cp} (h : c.ok) (n : Nd) (nx cy : Int) (a : Bool) (b1 b2 : Int) (h2 : n.number = c.nd.number) (h3 : n.ok) : (Cp.mk c.number nx cy a b1 b2 n c.ps c.co).ok := ok_of h.num (h2.trans h.nnum) h3 ⟨h.data, h.cps, h.cpd, h.css, h.csd⟩
theorem nhello_num (n : Nd) (cy : Int) (i : List UInt8) (a b : Int) : (n.hello cy i a b).1.number = n.number := by
  unfold Nd.hello
  exact cond_p (P := fun z : Nd × Frm × Int => z.1.number = n.number) rfl (cond_p (P := fun z : Nd × Frm × Int => z.1.number = n.number) rfl (cond_p (P := fun z : Nd × Frm × Int => z.1.number = n.number) rfl rfl))
theorem nhello_ok {n : Nd} (h : n.ok) {cy : Int} {i : List UInt8} (hi : i.length ≤ 1000) {a b : Int} : (n.hello cy i a b).1.ok := by
  unfold Nd.hello
  exact cond_p (P := fun z : Nd × Frm × Int => z.1.ok) h (cond_p (P := fun z : Nd × Frm × Int => z.1.ok) h (cond_p (P := fun z : Nd × Frm × Int => z.1.ok) h ⟨hi, by simp [Nd.begun, noHd], by simp [Nd.begun, noSe]⟩))
theorem heard1_num (n : Nd) (f : Frm) (came : Bool) : (n.heard1 f came).number = n.number := cond_p (P := fun z : Nd => z.number = n.number) rfl rfl
theorem heard1_ok {n : Nd} (h : n.ok) (f : Frm) (came : Bool) : (n.heard1 f came).ok := cond_p (P := Nd.ok) ⟨h.inp, getHello_len _, h.sin⟩ h
theorem heard2_num (n : Nd) : n.heard2.number = n.number := cond_p (P := fun z : Nd => z.number = n.number) rfl rfl
theorem heard2_ok {n : Nd} (h : n.ok) : n.heard2.ok := cond_p (P := Nd.ok) ⟨h.inp, h.hinp, h.sin⟩ ⟨h.inp, by simp [noHd], h.sin⟩
theorem heard3_num (n : Nd) (r : Int) : (n.heard3 r).number = n.number := cond_p (P := fun z : Nd => z.number = n.number) rfl rfl
theorem heard3_ok {n : Nd} (h : n.ok) (r : Int) : (n.heard3 r).ok := cond_p (P := Nd.ok) ⟨h.inp, h.hinp, h.sin⟩ ⟨h.inp, h.hinp, h.sin⟩
theorem nhear_num (n : Nd) (f : Frm) (came : Bool) : (n.hear f came).1.number = n.number := by
  unfold Nd.hear
  refine cond_p (P := fun z : Nd × Hd × Bool × Int => z.1.number = n.number) rfl ?_
  exact (heard3_num _ _).trans ((heard2_num _).trans (heard1_num _ _ _))
theorem nhear_ok {n : Nd} (h : n.ok) (f : Frm) (came : Bool) : (n.hear f came).1.ok := by
  unfold Nd.hear
  refine cond_p (P := fun z : Nd × Hd × Bool × Int => z.1.ok) h ?_
  have := heard3_ok (heard2_ok (heard1_ok h f came)) (n.heard1 f came).heard2.newRole
  exact ⟨this.inp, this.hinp, this.sin⟩
theorem nshare_num (n : Nd) : n.share.1.number = n.number := by
  unfold Nd.share
  exact cond_p (P := fun z : Nd × Frm × Bool × Int => z.1.number = n.number) rfl (cond_p (P := fun z : Nd × Frm × Bool × Int => z.1.number = n.number) rfl rfl)
theorem nshare_ok {n : Nd} (h : n.ok) : n.share.1.ok := by
  unfold Nd.share
  exact cond_p (P := fun z : Nd × Frm × Bool × Int => z.1.ok) h (cond_p (P := fun z : Nd × Frm × Bool × Int => z.1.ok) ⟨h.inp, h.hinp, h.sin⟩ ⟨h.inp, h.hinp, Nat.le_trans n.packed_len (by decide)⟩)
theorem took_num (n : Nd) (f : Frm) (came : Bool) : (n.took f came).number = n.number := cond_p (P := fun z : Nd => z.number = n.number) (cond_p (P := fun z : Nd => z.number = n.number) rfl rfl) rfl
theorem took_ok {n : Nd} (h : n.ok) {f : Frm} (hf : f.payload.length ≤ 1100) (came : Bool) : (n.took f came).ok := cond_p (P := Nd.ok) (cond_p (P := Nd.ok) ⟨h.inp, h.hinp, Nat.le_trans (getSet_len _ _) (Nat.le_trans hf (by decide))⟩ ⟨h.inp, h.hinp, h.sin⟩) ⟨h.inp, h.hinp, h.sin⟩
theorem stepped_num (n : Nd) (f : Frm) (came : Bool) : (n.stepped f came).number = n.number := cond_p (P := fun z : Nd => z.number = n.number) rfl (cond_p (P := fun z : Nd => z.number = n.number) (cond_p (P := fun z : Nd => z.number = n.number) (took_num n f came) (took_num n f came)) rfl)
theorem stepped_ok {n : Nd} (h : n.ok) {f : Frm} (hf : f.payload.length ≤ 1100) (came : Bool) : (n.stepped f came).ok := by
  have ht := took_ok h hf came
  exact cond_p (P := Nd.ok) ⟨h.inp, h.hinp, h.sin⟩ (cond_p (P := Nd.ok) (cond_p (P := Nd.ok) ht ⟨ht.inp, ht.hinp, ht.sin⟩) ⟨h.inp, h.hinp, h.sin⟩)
theorem nstep_num (n : Nd) (f : Frm) (came : Bool) : (n.step f came).1.number = n.number := by
  unfold Nd.step
  exact cond_p (P := fun z : Nd × Se × Bool × Int => z.1.number = n.number) rfl (cond_p (P := fun z : Nd × Se × Bool × Int => z.1.number = n.number) (stepped_num n f came) (stepped_num n f came))
theorem nstep_ok {n : Nd} (h : n.ok) {f : Frm} (hf : f.payload.length ≤ 1100) (came : Bool) : (n.step f came).1.ok := by
  have ht := stepped_ok h hf came
  unfold Nd.step
  exact cond_p (P := fun z : Nd × Se × Bool × Int => z.1.ok) h (cond_p (P := fun z : Nd × Se × Bool × Int => z.1.ok) ⟨ht.inp, ht.hinp, ht.sin⟩ ht)
theorem nstep_in {n : Nd} (h : n.ok) {f : Frm} (hf : f.payload.length ≤ 1100) (came : Bool) : (n.step f came).2.1.in_.length ≤ 2000 := by
  have ht := stepped_ok h hf came
  unfold Nd.step
  exact cond_p (P := fun z : Nd × Se × Bool × Int => z.2.1.in_.length ≤ 2000) (by simp [noSe]) (cond_p (P := fun z : Nd × Se × Bool × Int => z.2.1.in_.length ≤ 2000) ht.sin (by simp [noSe]))
theorem ntell_num (n : Nd) (t : Tg) : (n.tell t).1.number = n.number := by
  unfold Nd.tell
  exact cond_p (P := fun z : Nd × Frm × Bool × Int => z.1.number = n.number) rfl (cond_p (P := fun z : Nd × Frm × Bool × Int => z.1.number = n.number) rfl rfl)
theorem ntell_ok {n : Nd} (h : n.ok) (t : Tg) : (n.tell t).1.ok := by
  unfold Nd.tell
  exact cond_p (P := fun z : Nd × Frm × Bool × Int => z.1.ok) h (cond_p (P := fun z : Nd × Frm × Bool × Int => z.1.ok) ⟨h.inp, h.hinp, h.sin⟩ ⟨h.inp, h.hinp, h.sin⟩)
theorem njudge_num (n : Nd) (f : Frm) (came : Bool) : (n.judge f came).1.number = n.number := by
  unfold Nd.judge
  exact cond_p (P := fun z : Nd × Int × Int => z.1.number = n.number) rfl rfl
theorem njudge_ok {n : Nd} (h : n.ok) (f : Frm) (came : Bool) : (n.judge f came).1.ok := by
  unfold Nd.judge
  exact cond_p (P := fun z : Nd × Int × Int => z.1.ok) h ⟨h.inp, h.hinp, h.sin⟩
theorem adopt_num (n : Nd) (s : Int) : (n.adopt s).1.number = n.number := by
  unfold Nd.adopt
  exact cond_p (P := fun z : Nd × Int => z.1.number = n.number) rfl (cond_p (P := fun z : Nd × Int => z.1.number = n.number) rfl rfl)
theorem adopt_ok {n : Nd} (h : n.ok) (s : Int) : (n.adopt s).1.ok := by
  unfold Nd.adopt
  exact cond_p (P := fun z : Nd × Int => z.1.ok) h (cond_p (P := fun z : Nd × Int => z.1.ok) h ⟨h.inp, h.hinp, h.sin⟩)
theorem hello_ok {c : Cp} (h : c.ok) {cy : Int} {i : List UInt8} (hi : i.length ≤ 1000) : (c.hello cy i).1.ok := by
  have h1 := nhello_num c.nd cy i c.w.1 c.w.2
  have h2 := nhello_ok h.nd (cy := cy) hi (a := c.w.1) (b := c.w.2)
  unfold Cp.hello
  refine cond_p (P := fun z : Cp × Frm × Int => z.1.ok) h ?_
  unfold Cp.began
  exact cond_p (P := fun z : Cp × Frm × Int => z.1.ok) (withNd h _ _ _ _ _ _ h1 h2) (withNd h _ _ _ _ _ _ h1 h2)
theorem hear_ok {c : Cp} (h : c.ok) {f : Frm} {came : Bool} : (c.hear f came).1.ok := by
  have h1 := nhear_num c.nd f came
  have h2 := nhear_ok h.nd f came
  unfold Cp.hear
  refine cond_p (P := fun z : Cp × Int => z.1.ok) h ?_
  unfold Cp.heard
  refine cond_p (P := fun z : Cp × Int => z.1.ok) (withNd h _ _ _ _ _ _ h1 h2) ?_
  have h3 : (c.heard1 (c.nd.hear f came)).ok := by
    unfold Cp.heard1
    exact cond_p (P := Cp.ok) (reset_ok (withNd h _ _ _ _ _ _ h1 h2)) (withNd h _ _ _ _ _ _ h1 h2)
  exact withNd h3 _ _ _ _ _ _ rfl h3.nd
theorem share_ok {c : Cp} (h : c.ok) : c.share.1.ok := by
  unfold Cp.share
  exact cond_p (P := fun z : Cp × Frm × Bool × Int => z.1.ok) h (withNd h _ _ _ _ _ _ (nshare_num _) (nshare_ok h.nd))
theorem note_ss {c : Co} {x : Se} {came : Bool} (h : c.ss.length ≤ 874) (hp : c.ps.length ≤ 874) : (c.note x came).ss.length ≤ 874 := by
  unfold Co.note
  refine cond_p (P := fun z : Co => z.ss.length ≤ 874) h (cond_pT (P := fun z : Co => z.ss.length ≤ 874) (fun _ => Nat.zero_le _) fun hm => ?_)
  unfold Co.misses at hm
  simp only [Bool.or_eq_false_iff, decide_eq_false_iff_not] at hm
  show (c.ss ++ [x.t]).length ≤ 874
  rw [List.length_append, List.length_singleton]
  omega
theorem note_csd {c : Co} {x : Se} {came : Bool} (h : ∀ y ∈ c.ss, y.2.2.2.length ≤ 2000) (hx : x.in_.length ≤ 2000) : ∀ y ∈ (c.note x came).ss, y.2.2.2.length ≤ 2000 := by
  unfold Co.note
  refine cond_p (P := fun z : Co => ∀ y ∈ z.ss, y.2.2.2.length ≤ 2000) h (cond_p (P := fun z : Co => ∀ y ∈ z.ss, y.2.2.2.length ≤ 2000) (by intro y hy; cases hy) ?_)
  intro y hy
  rcases List.mem_append.1 hy with hy | hy
  · exact h y hy
  · rw [List.mem_singleton] at hy; subst hy; exact hx
theorem note_ps {c : Co} {x : Se} {came : Bool} : (c.note x came).ps = c.ps ∨ (c.note x came).ps = [] := by
  unfold Co.note
  exact cond_p (P := fun z : Co => z.ps = c.ps ∨ z.ps = []) (.inl rfl) (cond_p (P := fun z : Co => z.ps = c.ps ∨ z.ps = []) (.inr rfl) (.inl rfl))
theorem noted_ok {c : Cp} (h : c.ok) {f : Frm} (hf : f.payload.length ≤ 1100) (came : Bool) : (c.noted f came).ok := by
  refine ok_of h.num h.nnum h.nd ⟨h.data, ?_, ?_, note_ss h.css h.cps, note_csd h.csd (Nat.le_trans (getSet_len _ _) (Nat.le_trans hf (by decide)))⟩
  · show (c.co.note _ _).ps.length ≤ 874
    rcases note_ps (c := c.co) (x := (getSet c.cycle f.payload).1) (came := c.setFits f came) with e | e
    · rw [e]; exact h.cps
    · rw [e]; exact Nat.zero_le _
  · show ∀ x ∈ (c.co.note _ _).ps, x.length ≤ 600
    rcases note_ps (c := c.co) (x := (getSet c.cycle f.payload).1) (came := c.setFits f came) with e | e
    · rw [e]; exact h.cpd
    · rw [e]; intro x hx; cases hx
theorem step_ok {c : Cp} (h : c.ok) {f : Frm} (hf : f.payload.length ≤ 1100) {came : Bool} : (c.step f came).1.ok := by
  have h1 := nstep_num c.nd f came
  have h2 := nstep_ok h.nd hf came
  unfold Cp.step
  refine cond_p (P := fun z : Cp × Se × Bool × Int => z.1.ok) h ?_
  have h3 := withNd h _ 4 c.cycle c.asked c.wb c.wh h1 h2
  show (c.stepped (c.nd.step f came) f came).ok
  unfold Cp.stepped
  exact cond_p (P := Cp.ok) (noted_ok (cond_p (P := Cp.ok) h3 (reset_ok h3)) hf came) h3
theorem step_in {c : Cp} (h : c.ok) {f : Frm} (hf : f.payload.length ≤ 1100) {came : Bool} : (c.step f came).2.1.in_.length ≤ 2000 := by
  have h2 := nstep_in h.nd hf came
  unfold Cp.step
  exact cond_p (P := fun z : Cp × Se × Bool × Int => z.2.1.in_.length ≤ 2000) (by simp [noSe]) h2
theorem tell_ok {c : Cp} (h : c.ok) {t : Tg} : (c.tell t).1.ok := by
  unfold Cp.tell
  exact cond_p (P := fun z : Cp × Frm × Bool × Int => z.1.ok) h (withNd h _ _ _ _ _ _ (ntell_num _ _) (ntell_ok h.nd _))
theorem judge_ok {c : Cp} (h : c.ok) {f : Frm} {came : Bool} : (c.judge f came).1.ok := by
  unfold Cp.judge
  exact cond_p (P := fun z : Cp × Int × Int => z.1.ok) h (withNd h _ _ _ _ _ _ (njudge_num _ _ _) (njudge_ok h.nd _ _))
theorem serve_data {ps : List PT} (h : ∀ p ∈ ps, p.2.2.2.length ≤ 600) (base have_ steps : Int) (save : List UInt8) : ∀ p ∈ (serve ps base have_ steps save).1, p.2.2.2.length ≤ 600 := by
  unfold serve
  refine cond_p (P := fun z : List PT × PT × Int => ∀ p ∈ z.1, p.2.2.2.length ≤ 600) h (cond_p (P := fun z : List PT × PT × Int => ∀ p ∈ z.1, p.2.2.2.length ≤ 600) h ?_)
  show ∀ p ∈ (split steps save).2, p.2.2.2.length ≤ 600
  unfold split
  refine cond_p (P := fun z : Int × List PT => ∀ p ∈ z.2, p.2.2.2.length ≤ 600) (by intro p hp; cases hp) (cond_p (P := fun z : Int × List PT => ∀ p ∈ z.2, p.2.2.2.length ≤ 600) (by intro p hp; cases hp) ?_)
  intro p hp
  exact splitL_data hp
theorem serve_ok {c : Cp} (h : c.ok) {save : List UInt8} : (c.serve save).1.ok := by
  unfold Cp.serve
  refine cond_p (P := fun z : Cp × Frm × Bool × Int => z.1.ok) h (cond_p (P := fun z : Cp × Frm × Bool × Int => z.1.ok) ?_ (withNd h _ _ _ _ _ _ rfl h.nd))
  have hd := serve_data h.data c.wb c.wh c.nd.steps save
  unfold Cp.served
  exact cond_p (P := fun z : Cp × Frm × Bool × Int => z.1.ok) (ok_of h.num h.nnum h.nd ⟨hd, h.cps, h.cpd, h.css, h.csd⟩) (ok_of h.num h.nnum h.nd ⟨hd, h.cps, h.cpd, h.css, h.csd⟩)
theorem take_ok {c : Cp} (h : c.ok) {f : Frm} {came : Bool} : (c.take f came).1.ok := by
  unfold Cp.take
  refine cond_p (P := fun z : Cp × JobT × Bool × Int => z.1.ok) h (cond_p (P := fun z : Cp × JobT × Bool × Int => z.1.ok) ?_ (withNd h _ _ _ _ _ _ rfl h.nd))
  have hg : (c.got f came).ok := got_ok h
  refine cond_p (P := fun z : Cp × JobT × Bool × Int => z.1.ok) ?_ hg
  unfold Cp.jobDone
  have := withNd hg ((c.got f came).nd.adopt (IntKind.i64.wrap ((c.got f came).co.base + ((c.got f came).co.ss.length : Int)))).1 (c.got f came).next (c.got f came).cycle (c.got f came).asked (c.got f came).wb (c.got f came).wh (adopt_num _ _) (adopt_ok hg.nd _)
  exact cond_p (P := fun z : Cp × JobT × Bool × Int => z.1.ok) this (reset_ok this)
structure JobOk (j : JobT) : Prop where
  snap : j.2.1.length ≤ 600 * 874
  sets : j.2.2.length ≤ 874
  ins : ∀ x ∈ j.2.2, x.2.2.2.length ≤ 2000
theorem take_job {c : Cp} (h : c.ok) {f : Frm} {came : Bool} : JobOk (c.take f came).2.1 := by
  have h0 : JobOk noJob := ⟨by simp [noJob], by simp [noJob], by simp [noJob]⟩
  unfold Cp.take
  refine cond_p (P := fun z : Cp × JobT × Bool × Int => JobOk z.2.1) h0 (cond_p (P := fun z : Cp × JobT × Bool × Int => JobOk z.2.1) ?_ h0)
  have hg : (c.got f came).ok := got_ok h
  refine cond_p (P := fun z : Cp × JobT × Bool × Int => JobOk z.2.1) ?_ h0
  unfold Cp.jobDone
  refine cond_p (P := fun z : Cp × JobT × Bool × Int => JobOk z.2.1) h0 ⟨?_, hg.css, hg.csd⟩
  show ((c.got f came).co.ps.flatten).length ≤ 600 * 874
  have key : ∀ l : List (List UInt8), (∀ x ∈ l, x.length ≤ 600) → l.flatten.length ≤ 600 * l.length := by
    intro l
    induction l with
    | nil => intro _; simp
    | cons a l ih =>
      intro hl
      have h1 := hl a (by simp)
      have h2 := ih fun x hx => hl x (by simp [hx])
      simp only [List.flatten_cons, List.length_append, List.length_cons]
      omega
  have := key _ hg.cpd
  have := hg.cps
  omega
end Go.Proofs.YtpleflcfaecojaaGreat
