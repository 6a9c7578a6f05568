/- Parts of the proof: FsmR3 FsmX HoldsF Used LookR -/
import Derived.Test.YtlpfcmnnmdhaoaaGreatQ05
import Derived.Test.YtlpfcmnnmdhaoaaGreatQ03
import Derived.Test.YtlpfcmnnmdhaoaaGreatQ04
import Derived.Test.YtlpfcmnnmdhaoaaGreatQ02
import Derived.Test.YtlpfcmnnmdhaoaaGreatQ01
namespace Go.Proofs.YtlpfcmnnmdhaoaaGreat
set_option linter.unusedVariables false
set_option linter.unusedSimpArgs false
set_option linter.unusedSectionVars false
section
open Go.RowKit
namespace Fsm
def SS (s t : StoreD) : Prop := t.stable = s.stable ∧ t.jobs = s.jobs
theorem SS.refl (s : StoreD) : SS s s := ⟨rfl, rfl⟩
theorem SS.trans {s t u : StoreD} (h : SS s t) (k : SS t u) : SS s u := ⟨k.1.trans h.1, k.2.trans h.2⟩
theorem fold_ss {α : Type} {f : StoreD → α → StoreD} (h : ∀ s a, SS s (f s a)) : ∀ (l : List α) (s : StoreD), SS s (l.foldl f s)
 | [], s => SS.refl s
 | a :: r, s => (h s a).trans (fold_ss h r (f s a))
theorem eval_ss (s : StoreD) (j : Int) : SS s (eval s j) := by unfold eval; split <;> exact ⟨rfl, rfl⟩
theorem came_ss (s : StoreD) : SS s (came s) := ⟨rfl, rfl⟩
theorem system_ss (s : StoreD) : SS s (system s) := fold_ss (fun t j => by split; exact eval_ss t j.id; exact SS.refl t) s.jobs s
theorem lost_ss (s : StoreD) (node : Int) : SS s (lost s node) := fold_ss (fun t i => by
 unfold lostStep
 split
 ·exact SS.refl t
 ·split
  ·exact ⟨(eval_ss _ _).1, (eval_ss _ _).2⟩
  ·exact SS.refl t) _ s
theorem joins_ss (s : StoreD) (n : NodD) : SS s (joins s n) := by
 unfold joins
 obtain ⟨a, b⟩ := system_ss (lost { s with nodes := putL NodD.id n s.nodes } n.id)
 obtain ⟨c, d⟩ := lost_ss { s with nodes := putL NodD.id n s.nodes } n.id
 exact ⟨a.trans c, b.trans d⟩
theorem report_ss (n : NodD) (z : StoreD × Bool) (r : Int × Int) : SS z.1 (report n z r).1 := by
 unfold report
 split
 ·exact SS.refl _
 ·split
  ·exact SS.refl _
  ·simp only
   split
   ·exact ⟨(eval_ss _ _).1, (eval_ss _ _).2⟩
   ·split
    ·exact ⟨rfl, rfl⟩
    ·split
     ·exact ⟨rfl, rfl⟩
     ·rename_i a _ _ _ _ _ _
      exact ⟨(eval_ss { z.1 with allocs := turn1 (fun a => a.id == r.1) (fun a => { a with state := r.2 }) z.1.allocs } _).1, (eval_ss { z.1 with allocs := turn1 (fun a => a.id == r.1) (fun a => { a with state := r.2 }) z.1.allocs } _).2⟩
theorem reports_ss (n : NodD) : ∀ (l : List (Int × Int)) (z : StoreD × Bool), SS z.1 (l.foldl (report n) z).1
 | [], z => SS.refl _
 | r :: l, z => (report_ss n z r).trans (reports_ss n l (report n z r))
theorem placeAll_stable (j : JobD) (n : NodD) : ∀ (l : List AllocD) (s t : StoreD), placeAll j n l s = some t → t.stable = s.stable
 | [], s, t, e => by cases e; rfl
 | x :: r, s, t, e => by
  unfold placeAll at e
  rw [List.foldl_cons, show placeStep j n (some s) x = if mayP s j n x then some (placed s j n x) else none from rfl] at e
  split at e
  ·exact placeAll_stable j n r (placed s j n x) t e
  ·rw [placeAll_none] at e; cases e
theorem places_ss (s : StoreD) (j : JobD) (node : Int) (l : List AllocD) : SS s (places s j node l).1 := by
 refine ⟨?_, (places_own s j node l).1⟩
 unfold places
 split
 ·rfl
 ·split
  ·rfl
  ·split
   ·rfl
   ·rename_i t ht
    split
    ·rfl
    ·exact (placeAll_stable _ _ _ _ t ht : t.stable = s.stable)
theorem plan_ss (s : StoreD) (c : CmdD) : SS s (plan s c).1 := by
 unfold plan
 simp only
 split
 ·rename_i j e _ _
  split
  ·exact SS.refl s
  ·have h2 : ∀ (l : List Int) (z : StoreD × Bool), SS z.1 (l.foldl (fun z n => ((places z.1 j n c.plan.places).1, z.2 && (places z.1 j n c.plan.places).2)) z).1 := fun l => by
    induction l with
    | nil => intro z; exact SS.refl _
    | cons n r ih =>
     intro z
     exact (places_ss z.1 j n _).trans (ih ((places z.1 j n c.plan.places).1, z.2 && (places z.1 j n c.plan.places).2))
   obtain ⟨k1, k2⟩ := h2 (nodesUp c.plan.places) ({ s with allocs := stops c.plan.job s.allocs c.plan.stops }, true)
   split
   ·exact ⟨k1, k2⟩
   ·exact ⟨k1, k2⟩
 ·exact SS.refl s
theorem StT.ss {s t : StoreD} (h : StT s) (k : SS s t) : StT t := fun x hx => by
 rw [k.1] at hx
 rw [jobAt, k.2]
 exact h x hx
theorem look_stt {s : StoreD} (h : StT s) (i : Nat) : StT (lookStep s i) := by
 unfold lookStep
 split
 ·exact h
 ·split
  ·exact h
  ·rename_i j hj
   split
   ·intro x hx
    rcases putL_mem hx with rfl | ⟨hx, _⟩
    ·have hid := (jobAt_mem hj).1
     have hq : jobAt s x.id = some x := by rw [hid]; exact hj
     exact ⟨x, hq, rfl⟩
    ·exact h x hx
   ·exact h
theorem looked_stt {s : StoreD} (h : StT s) : StT (looked s) := by
 have : ∀ (l : List Nat) (s : StoreD), StT s → StT (l.foldl lookStep s) := fun l => by
  induction l with
  | nil => intro s h; exact h
  | cons i r ih => intro s h; exact ih _ (look_stt h i)
 exact this _ s h
theorem begins_stt {s : StoreD} (h : StT s) (j : JobD) (hj : ∀ q, jobAt s j.id = some q → j.ty = q.ty) : StT (begins s j) := by
 have h1 : StT { s with jobs := putL JobD.id j s.jobs } := fun x hx => by
  obtain ⟨q, hq, e⟩ := h x hx
  by_cases hid : x.id = j.id
  ·refine ⟨j, ?_, ?_⟩
   ·show (putL JobD.id j s.jobs).find? (fun y => y.id == x.id) = some j
    rw [hid]; exact putL_find _
   ·rw [hid] at hq
    rw [hj q hq]; exact e
  ·refine ⟨q, ?_, e⟩
   show (putL JobD.id j s.jobs).find? (fun y => y.id == x.id) = some q
   rw [putL_find_other hid]; exact hq
 unfold begins
 simp only
 refine StT.ss ?_ (eval_ss _ _)
 split
 ·exact looked_stt (fun x hx => h1 x hx)
 ·exact h1
theorem command_stt {k : Nat} {s : StoreD} (hv : Vers k s) (h : StT s) (c : CmdD) : StT (command s c).1 := by
 unfold command
 repeat' split
 ·exact h
 ·unfold submit
  split
  ·exact h
  ·split
   ·rename_i g hg
    split
    ·exact h
    ·rename_i hc
     refine begins_stt h _ (fun q hq => ?_)
     have hq' : jobAt s c.job.id = some q := hq
     rw [hg] at hq'; cases hq'
     cases hqq : (g.ty == c.job.ty) with
     | true => exact (by simpa using hqq : g.ty = c.job.ty).symm
     | false => rw [hqq] at hc; simp at hc
   ·rename_i hg
    split
    ·exact h
    ·refine begins_stt h _ (fun q hq => ?_)
     have hq' : jobAt s c.job.id = some q := hq
     rw [hg] at hq'; cases hq'
 ·unfold cancel
  split
  ·exact h
  ·refine StT.ss (s := { s with jobs := turn1 (fun j => j.id == c.job.id) (fun j => { j with stopped := true }) s.jobs, deploys := turn1 (fun d => d.job == c.job.id) (fun d => if d.state == 1 then { d with state := 3 } else d) s.deploys }) (fun x hx => ?_) (eval_ss _ _)
   obtain ⟨q, hq, e⟩ := h x hx
   show ∃ j, (turn1 (fun j : JobD => j.id == c.job.id) (fun j => { j with stopped := true }) s.jobs).find? (fun y => y.id == x.id) = some j ∧ j.ty = x.ty
   by_cases hid : x.id = c.job.id
   ·refine ⟨{ q with stopped := true }, ?_, e⟩
    rw [hid, turn1_find (fun j : JobD => j.id == c.job.id) (fun j => { j with stopped := true }) (fun _ => rfl)]
    have hq' : s.jobs.find? (fun j => j.id == c.job.id) = some q := by rw [← hid]; exact hq
    rw [hq']; rfl
   ·refine ⟨q, ?_, e⟩
    rw [turn1_find_other _ _ _ (fun a ha => ?_)]
    ·exact hq
    ·have ha' : a.id = c.job.id := by simpa using ha
     exact ⟨by simp [ha', Ne.symm hid], by simp [ha', Ne.symm hid]⟩
 ·unfold register
  split
  ·exact h
  ·split
   ·exact h.ss (joins_ss _ _)
   ·split
    ·exact h
    ·split
     ·split <;> exact h
     ·exact h.ss (joins_ss _ _)
 ·unfold beat
  split
  ·exact h
  ·split
   ·exact h
   ·split
    ·exact h
    ·split
     ·exact h
     ·simp only
      have h1 : StT (c.reports.foldl (report c.node) ({ s with nodes := turn1 (fun n => n.id == c.node.id) (fun n => { n with seq := c.node.seq }) s.nodes }, false)).1 := StT.ss (s := { s with nodes := turn1 (fun n => n.id == c.node.id) (fun n => { n with seq := c.node.seq }) s.nodes }) (h.ss ⟨rfl, rfl⟩) (reports_ss c.node c.reports ({ s with nodes := turn1 (fun n => n.id == c.node.id) (fun n => { n with seq := c.node.seq }) s.nodes }, false))
      have h2 := looked_stt h1
      split
      ·exact h2.ss (came_ss _)
      ·exact h2
 ·unfold down
  split
  ·exact h
  ·split
   ·exact h
   ·split
    ·exact h
    ·have h1 : StT { s with nodes := turn1 (fun n => n.id == c.node.id) (fun n => { n with up := false, epoch := wrap64 (n.epoch + 1) }) s.nodes } := h.ss ⟨rfl, rfl⟩
     exact (h1.ss (lost_ss _ _)).ss (system_ss _)
 ·unfold drain
  split
  ·exact h
  ·simp only
   have h1 : StT { s with nodes := turn1 (fun n => n.id == c.node.id) (fun n => { n with drain := c.node.drain }) s.nodes } := h.ss ⟨rfl, rfl⟩
   have h2 := (h1.ss (fold_ss (f := fun t (a : AllocD) => if a.node == c.node.id && !overB a then eval t a.job else t) (fun t a => by split; exact eval_ss t a.job; exact SS.refl t) s.allocs _)).ss (system_ss _)
   split
   ·exact h2
   ·exact h2.ss (came_ss _)
 ·exact h.ss (plan_ss s c)
 ·unfold revert
  split
  ·exact h
  ·rename_i g hg
   split
   ·exact h
   ·split
    ·exact h
    ·simp only
     split
     ·exact StT.ss (s := { s with deploys := turn1 (fun d => d.job == g.id) (fun d => { d with state := 3 }) s.deploys }) (h.ss ⟨rfl, rfl⟩) (eval_ss _ _)
     ·rename_i x hx
      split
      ·exact StT.ss (s := { s with deploys := turn1 (fun d => d.job == g.id) (fun d => { d with state := 3 }) s.deploys }) (h.ss ⟨rfl, rfl⟩) (eval_ss _ _)
      ·split
       ·exact h
       ·obtain ⟨q, hq, e⟩ := h x (List.mem_of_find?_eq_some hx)
        refine begins_stt (s := { s with deploys := turn1 (fun d => d.job == g.id) (fun d => { d with state := 3 }) s.deploys }) (h.ss ⟨rfl, rfl⟩) _ (fun p hp => ?_)
        have hp' : jobAt s x.id = some p := hp
        rw [hq] at hp'; cases hp'
        exact e.symm
 ·exact h
theorem apply_rise {k : Nat} {s : StoreD} (h : Vers k s) (hk : k < 4611686018427387904) (hst : StT s) (ix : Int) (c : CmdD) : Rise s (apply s ix c).1 ∧ Vers (k + 1) (apply s ix c).1 ∧ StT (apply s ix c).1 := by
 have h1 : Vers k { s with index := ix } := ⟨h.jn, h.jv, h.nn, h.ne⟩
 have s1 : StT { s with index := ix } := hst.ss ⟨rfl, rfl⟩
 obtain ⟨r, v⟩ := command_rise h1 hk s1 c
 have st := command_stt h1 s1 c
 have r' : Rise s (command { s with index := ix } c).1 := ⟨r.jobs, r.nodes⟩
 have h0 : Rise s { s with index := ix } ∧ Vers (k + 1) { s with index := ix } ∧ StT { s with index := ix } := ⟨⟨(Rise.refl h).jobs, (Rise.refl h).nodes⟩, h1.more (by omega), s1⟩
 unfold apply
 simp only
 split
 ·exact ⟨r', v, st⟩
 ·split
  ·exact h0
  ·split
   ·split <;> exact h0
   ·exact ⟨⟨r'.jobs, r'.nodes⟩, ⟨v.jn, v.jv, v.nn, v.ne⟩, st.ss ⟨rfl, rfl⟩⟩
theorem new_vers : Vers 0 new ∧ StT new := ⟨⟨by simp [new], by simp [new], by simp [new], by simp [new]⟩, by intro x hx; simp [new] at hx⟩
end Fsm
end
section
open Go.RowKit
namespace Fsm
structure Len (s t : StoreD) : Prop where
 j : t.jobs.length = s.jobs.length
 n : t.nodes.length = s.nodes.length
 d : t.deploys.length = s.deploys.length
 x : t.seen.length = s.seen.length
theorem Len.refl (s : StoreD) : Len s s := ⟨rfl, rfl, rfl, rfl⟩
theorem Len.trans {s t u : StoreD} (h : Len s t) (k : Len t u) : Len s u := ⟨k.j.trans h.j, k.n.trans h.n, k.d.trans h.d, k.x.trans h.x⟩
theorem fold_llen {α : Type} {f : StoreD → α → StoreD} (h : ∀ s a, Len s (f s a)) : ∀ (l : List α) (s : StoreD), Len s (l.foldl f s)
 | [], s => Len.refl s
 | a :: r, s => (h s a).trans (fold_llen h r (f s a))
theorem eval_llen (s : StoreD) (j : Int) : Len s (eval s j) := by unfold eval; split <;> exact ⟨rfl, rfl, rfl, rfl⟩
theorem came_llen (s : StoreD) : Len s (came s) := ⟨rfl, rfl, rfl, rfl⟩
theorem system_llen (s : StoreD) : Len s (system s) := fold_llen (fun t j => by split; exact eval_llen t j.id; exact Len.refl t) s.jobs s
theorem looked_llen (s : StoreD) : Len s (looked s) := fold_llen (fun t i => by
 unfold lookStep
 split
 ·exact Len.refl t
 ·split
  ·exact Len.refl t
  ·split
   ·exact ⟨rfl, rfl, List.length_set, rfl⟩
   ·exact Len.refl t) _ s
theorem lost_llen (s : StoreD) (node : Int) : Len s (lost s node) := fold_llen (fun t i => by
 unfold lostStep
 split
 ·exact Len.refl t
 ·rename_i a _
  split
  ·exact Len.trans (t := { t with allocs := t.allocs.set i { a with state := 6 } }) ⟨rfl, rfl, rfl, rfl⟩ (eval_llen _ _)
  ·exact Len.refl t) _ s
theorem report_llen (n : NodD) (z : StoreD × Bool) (r : Int × Int) : Len z.1 (report n z r).1 := by
 unfold report
 split
 ·exact Len.refl _
 ·rename_i a _
  split
  ·exact Len.refl _
  ·have h1 : Len z.1 ({ z.1 with allocs := turn1 (fun a => a.id == r.1) (fun a => { a with state := r.2 }) z.1.allocs } : StoreD) := ⟨rfl, rfl, rfl, rfl⟩
   have h2 := h1.trans (eval_llen _ a.job)
   simp only
   split
   ·exact h2
   ·split
    ·exact h1
    ·split
     ·exact h1
     ·exact ⟨h2.j, h2.n, by simp only [turn1_len]; exact h2.d, h2.x⟩
theorem reports_llen (n : NodD) : ∀ (l : List (Int × Int)) (z : StoreD × Bool), Len z.1 (l.foldl (report n) z).1
 | [], z => Len.refl _
 | r :: l, z => (report_llen n z r).trans (reports_llen n l (report n z r))
theorem placeAll_llen (j : JobD) (n : NodD) : ∀ (l : List AllocD) (s t : StoreD), placeAll j n l s = some t → Len s t
 | [], s, t, e => by cases e; exact Len.refl _
 | x :: r, s, t, e => by
  unfold placeAll at e
  rw [List.foldl_cons, show placeStep j n (some s) x = if mayP s j n x then some (placed s j n x) else none from rfl] at e
  split at e
  ·exact Len.trans (t := placed s j n x) ⟨rfl, rfl, rfl, rfl⟩ (placeAll_llen j n r (placed s j n x) t e)
  ·rw [placeAll_none] at e; cases e
theorem places_llen (s : StoreD) (j : JobD) (node : Int) (l : List AllocD) : Len s (places s j node l).1 := by
 unfold places
 split
 ·exact Len.refl _
 ·split
  ·exact Len.refl _
  ·split
   ·exact Len.refl _
   ·rename_i t ht
    have h1 := placeAll_llen _ _ _ _ _ ht
    split
    ·exact Len.refl _
    ·exact h1.trans ⟨rfl, rfl, rfl, rfl⟩
theorem plan_llen (s : StoreD) (c : CmdD) : Len s (plan s c).1 := by
 unfold plan
 simp only
 split
 ·rename_i j e _ _
  split
  ·exact Len.refl _
  ·have h2 : ∀ (l : List Int) (z : StoreD × Bool), Len z.1 (l.foldl (fun z n => ((places z.1 j n c.plan.places).1, z.2 && (places z.1 j n c.plan.places).2)) z).1 := fun l => by
    induction l with
    | nil => exact fun z => Len.refl _
    | cons n r ih => exact fun z => (places_llen z.1 j n c.plan.places).trans (ih ((places z.1 j n c.plan.places).1, z.2 && (places z.1 j n c.plan.places).2))
   have h3 := h2 (nodesUp c.plan.places) ({ s with allocs := stops c.plan.job s.allocs c.plan.stops }, true)
   split
   ·exact ⟨h3.j, h3.n, h3.d, h3.x⟩
   ·exact ⟨h3.j, h3.n, h3.d, h3.x⟩
 ·exact Len.refl _
structure Few (s t : StoreD) : Prop where
 j : t.jobs.length ≤ s.jobs.length + 1
 n : t.nodes.length ≤ s.nodes.length + 1
 d : t.deploys.length ≤ s.deploys.length + 1
 x : t.seen.length ≤ s.seen.length
theorem Len.few {s t : StoreD} (h : Len s t) : Few s t := ⟨by have := h.j; omega, by have := h.n; omega, by have := h.d; omega, by have := h.x; omega⟩
theorem Few.len {s t u : StoreD} (h : Few s t) (k : Len t u) : Few s u := ⟨by have := h.j; have := k.j; omega, by have := h.n; have := k.n; omega, by have := h.d; have := k.d; omega, by have := h.x; have := k.x; omega⟩
theorem begins_few (s : StoreD) (j : JobD) : Few s (begins s j) := by
 unfold begins
 simp only
 refine Few.len ?_ (eval_llen _ _)
 split
 ·exact Few.len (t := { s with jobs := putL JobD.id j s.jobs, deploys := putL DepD.job ⟨j.id, j.ver, 1, s.index⟩ s.deploys }) ⟨putL_len _, by simp, putL_len _, by simp⟩ (looked_llen _)
 ·exact ⟨putL_len _, by simp, by simp, by simp⟩
theorem joins_few (s : StoreD) (n : NodD) : Few s (joins s n) := by
 unfold joins
 exact Few.len (t := { s with nodes := putL NodD.id n s.nodes }) ⟨by simp, putL_len _, by simp, by simp⟩ (((lost_llen _ _).trans (system_llen _)).trans (came_llen _))
theorem Few.refl (s : StoreD) : Few s s := (Len.refl s).few
theorem llen_nodes (s : StoreD) (p : NodD → Bool) (f : NodD → NodD) : Len s { s with nodes := turn1 p f s.nodes } := ⟨rfl, turn1_len _, rfl, rfl⟩
theorem llen_deps (s : StoreD) (p : DepD → Bool) (f : DepD → DepD) : Len s { s with deploys := turn1 p f s.deploys } := ⟨rfl, rfl, turn1_len _, rfl⟩
theorem Len.pre {s t u : StoreD} (h : Len s t) (k : Few t u) : Few s u := ⟨by have := h.j; have := k.j; omega, by have := h.n; have := k.n; omega, by have := h.d; have := k.d; omega, by have := h.x; have := k.x; omega⟩
theorem command_few (s : StoreD) (c : CmdD) : Few s (command s c).1 := by
 unfold command
 repeat' split
 ·exact Few.refl s
 ·unfold submit
  split
  ·exact Few.refl s
  ·split
   ·split
    ·exact Few.refl s
    ·exact begins_few _ _
   ·split
    ·exact Few.refl s
    ·exact begins_few _ _
 ·unfold cancel
  split
  ·exact Few.refl s
  ·exact (Len.trans (t := { s with jobs := turn1 (fun j => j.id == c.job.id) (fun j => { j with stopped := true }) s.jobs, deploys := turn1 (fun d => d.job == c.job.id) (fun d => if d.state == 1 then { d with state := 3 } else d) s.deploys }) ⟨turn1_len _, rfl, turn1_len _, rfl⟩ (eval_llen _ _)).few
 ·unfold register
  split
  ·exact Few.refl s
  ·split
   ·exact joins_few _ _
   ·split
    ·exact Few.refl s
    ·split
     ·split <;> exact Few.refl s
     ·exact joins_few _ _
 ·unfold beat
  split
  ·exact Few.refl s
  ·split
   ·exact Few.refl s
   ·split
    ·exact Few.refl s
    ·split
     ·exact Few.refl s
     ·simp only
      have h0 := llen_nodes s (fun n => n.id == c.node.id) (fun n => { n with seq := c.node.seq })
      have h1 : Len s (looked (c.reports.foldl (report c.node) (({ s with nodes := turn1 (fun n => n.id == c.node.id) (fun n => { n with seq := c.node.seq }) s.nodes } : StoreD), false)).1) :=
       (h0.trans (reports_llen c.node c.reports (({ s with nodes := turn1 (fun n => n.id == c.node.id) (fun n => { n with seq := c.node.seq }) s.nodes } : StoreD), false))).trans (looked_llen _)
      split
      ·exact (h1.trans (came_llen _)).few
      ·exact h1.few
 ·unfold down
  split
  ·exact Few.refl s
  ·split
   ·exact Few.refl s
   ·split
    ·exact Few.refl s
    ·exact (((llen_nodes s (fun n => n.id == c.node.id) (fun n => { n with up := false, epoch := wrap64 (n.epoch + 1) })).trans (lost_llen _ _)).trans (system_llen _)).few
 ·unfold drain
  split
  ·exact Few.refl s
  ·simp only
   have h1 : Len s (system (s.allocs.foldl (fun t a => if a.node == c.node.id && !overB a then eval t a.job else t) { s with nodes := turn1 (fun n => n.id == c.node.id) (fun n => { n with drain := c.node.drain }) s.nodes })) :=
    ((llen_nodes s (fun n => n.id == c.node.id) (fun n => { n with drain := c.node.drain })).trans (fold_llen (f := fun t (a : AllocD) => if a.node == c.node.id && !overB a then eval t a.job else t) (fun t a => by split; exact eval_llen _ _; exact Len.refl _) s.allocs _)).trans (system_llen _)
   split
   ·exact h1.few
   ·exact (h1.trans (came_llen _)).few
 ·exact (plan_llen s c).few
 ·unfold revert
  split
  ·exact Few.refl s
  ·split
   ·exact Few.refl s
   ·split
    ·exact Few.refl s
    ·simp only
     split
     ·exact ((llen_deps _ _ _).trans (eval_llen _ _)).few
     ·split
      ·exact ((llen_deps _ _ _).trans (eval_llen _ _)).few
      ·split
       ·exact Few.refl s
       ·exact (llen_deps s _ _).pre (begins_few _ _)
 ·exact Few.refl s
theorem apply_few (s : StoreD) (ix : Int) (c : CmdD) : (apply s ix c).1.jobs.length ≤ s.jobs.length + 1 ∧ (apply s ix c).1.nodes.length ≤ s.nodes.length + 1 ∧ (apply s ix c).1.deploys.length ≤ s.deploys.length + 1 ∧ (apply s ix c).1.seen.length ≤ s.seen.length + 1 := by
 unfold apply
 simp only
 obtain ⟨a, b, c', d⟩ := command_few { s with index := ix } c
 split
 ·exact ⟨a, b, c', Nat.le_succ_of_le d⟩
 ·split
  ·exact ⟨by simp [no], by simp [no], by simp [no], by simp [no]⟩
  ·split
   ·split
    ·exact ⟨by simp [no], by simp [no], by simp [no], by simp [no]⟩
    ·exact ⟨by simp, by simp, by simp, by simp⟩
   ·exact ⟨a, b, c', Nat.le_trans (putL_len _) (Nat.succ_le_succ d)⟩
def StS (s : StoreD) : Prop := (s.stable.map JobD.id).Pairwise (· < ·)
theorem look_sts {s : StoreD} (h : StS s) (i : Nat) : StS (lookStep s i) := by
 unfold lookStep
 split
 ·exact h
 ·split
  ·exact h
  ·split
   ·show ((putL JobD.id _ s.stable).map JobD.id).Pairwise (· < ·)
    rw [putL_keys]; exact putK_sorted h
   ·exact h
theorem looked_sts {s : StoreD} (h : StS s) : StS (looked s) := by
 have : ∀ (l : List Nat) (s : StoreD), StS s → StS (l.foldl lookStep s) := fun l => by
  induction l with
  | nil => intro s h; exact h
  | cons i r ih => intro s h; exact ih _ (look_sts h i)
 exact this _ s h
theorem StS.ss {s t : StoreD} (h : StS s) (k : t.stable = s.stable) : StS t := by unfold StS; rw [k]; exact h
theorem begins_sts {s : StoreD} (h : StS s) (j : JobD) : StS (begins s j) := by
 unfold begins
 simp only
 refine StS.ss ?_ (eval_ss _ _).1
 split
 ·exact looked_sts (s := { s with jobs := putL JobD.id j s.jobs, deploys := putL DepD.job ⟨j.id, j.ver, 1, s.index⟩ s.deploys }) h
 ·exact h
theorem command_sts {s : StoreD} (h : StS s) (c : CmdD) : StS (command s c).1 := by
 unfold command
 repeat' split
 ·exact h
 ·unfold submit
  split
  ·exact h
  ·split
   ·split
    ·exact h
    ·exact begins_sts h _
   ·split
    ·exact h
    ·exact begins_sts h _
 ·unfold cancel
  split
  ·exact h
  ·exact StS.ss h (eval_ss { s with jobs := turn1 (fun j => j.id == c.job.id) (fun j => { j with stopped := true }) s.jobs, deploys := turn1 (fun d => d.job == c.job.id) (fun d => if d.state == 1 then { d with state := 3 } else d) s.deploys } _).1
 ·unfold register
  split
  ·exact h
  ·split
   ·exact h.ss (joins_ss _ _).1
   ·split
    ·exact h
    ·split
     ·split <;> exact h
     ·exact h.ss (joins_ss _ _).1
 ·unfold beat
  split
  ·exact h
  ·split
   ·exact h
   ·split
    ·exact h
    ·split
     ·exact h
     ·simp only
      have h1 : StS (looked (c.reports.foldl (report c.node) (({ s with nodes := turn1 (fun n => n.id == c.node.id) (fun n => { n with seq := c.node.seq }) s.nodes } : StoreD), false)).1) := looked_sts (StS.ss h (reports_ss c.node c.reports _).1)
      split
      ·exact h1.ss (came_ss _).1
      ·exact h1
 ·unfold down
  split
  ·exact h
  ·split
   ·exact h
   ·split
    ·exact h
    ·exact h.ss ((system_ss _).1.trans (lost_ss { s with nodes := turn1 (fun n => n.id == c.node.id) (fun n => { n with up := false, epoch := wrap64 (n.epoch + 1) }) s.nodes } _).1)
 ·unfold drain
  split
  ·exact h
  ·simp only
   have h1 : StS (system (s.allocs.foldl (fun t a => if a.node == c.node.id && !overB a then eval t a.job else t) { s with nodes := turn1 (fun n => n.id == c.node.id) (fun n => { n with drain := c.node.drain }) s.nodes })) :=
    h.ss ((system_ss _).1.trans (fold_ss (f := fun t (a : AllocD) => if a.node == c.node.id && !overB a then eval t a.job else t) (fun t a => by split; exact eval_ss _ _; exact SS.refl _) s.allocs { s with nodes := turn1 (fun n => n.id == c.node.id) (fun n => { n with drain := c.node.drain }) s.nodes }).1)
   split
   ·exact h1
   ·exact h1.ss (came_ss _).1
 ·exact h.ss (plan_ss s c).1
 ·unfold revert
  split
  ·exact h
  ·split
   ·exact h
   ·split
    ·exact h
    ·simp only
     split
     ·exact StS.ss (s := s) h (eval_ss _ _).1
     ·split
      ·exact StS.ss (s := s) h (eval_ss _ _).1
      ·split
       ·exact h
       ·refine begins_sts ?_ _
        exact h
 ·exact h
theorem apply_sts {s : StoreD} (h : StS s) (ix : Int) (c : CmdD) : StS (apply s ix c).1 := by
 have h0 : StS ({ s with index := ix } : StoreD) := h
 have h2 := command_sts h0 c
 unfold apply
 simp only
 split
 ·exact h2
 ·split
  ·exact h0
  ·split
   ·split <;> exact h0
   ·exact h2
theorem len_sub : ∀ {l m : List Int}, l.Nodup → (∀ x ∈ l, x ∈ m) → l.length ≤ m.length
 | [], _, _, _ => by simp
 | x :: r, m, h, hm => by
  rw [List.nodup_cons] at h
  have hx := hm x (List.mem_cons_self ..)
  have h1 := len_sub (l := r) (m := m.erase x) h.2 (fun y hy => (List.mem_erase_of_ne (by rintro rfl; exact h.1 hy)).2 (hm y (List.mem_cons_of_mem _ hy)))
  rw [List.length_erase_of_mem hx] at h1
  have : 0 < m.length := List.length_pos_of_mem hx
  simp only [List.length_cons]
  omega
theorem stable_len {s : StoreD} (h : StS s) (ht : StT s) : s.stable.length ≤ s.jobs.length := by
 have := len_sub (l := s.stable.map JobD.id) (m := s.jobs.map JobD.id) (List.Pairwise.imp (fun e => by omega) h) (fun x hx => by
  obtain ⟨y, hy, rfl⟩ := List.mem_map.1 hx
  obtain ⟨j, hj, _⟩ := ht y hy
  obtain ⟨a, b⟩ := jobAt_mem hj
  exact a ▸ List.mem_map_of_mem b)
 simpa using this
theorem new_sts : StS new := by simp [StS, new]
end Fsm
end
section
open Go.RowKit
namespace Fsm
structure Good (t : Nat) (s : StoreD) : Prop where
 inv : Inv s
 o64 : Ok64 s
 num : Num (t * 1099511627776) s
 evs : Evs s
 vers : Vers t s
 stt : StT s
 sts : StS s
 ix : s.index = t
 lj : s.jobs.length ≤ t
 ln : s.nodes.length ≤ t
 ld : s.deploys.length ≤ t
 lx : s.seen.length ≤ t
theorem sq_le {n : Nat} (h : n ≤ 1048576) : n * n ≤ 1099511627776 := Nat.le_trans (Nat.mul_le_mul h h) (by decide)
theorem good_step {t : Nat} {s : StoreD} (h : Good t s) (ht : t ≤ 1048576) {c : CmdD} (hc : c.ok) (hp : c.plan.places.length ≤ 1048576) : Good (t + 1) (apply s ((t : Int) + 1) c).1 := by
 have hq := sq_le hp
 obtain ⟨f1, f2, f3, f4⟩ := apply_few s ((t : Int) + 1) c
 obtain ⟨e1, e2⟩ := apply_evs h.evs ((t : Int) + 1) c (by rw [h.ix]; omega) (by omega)
 obtain ⟨_, r2, r3⟩ := apply_rise h.vers (by omega) h.stt ((t : Int) + 1) c
 have h1 := h.lj
 have h2 := h.ln
 have h3 := h.ld
 have h4 := h.lx
 exact ⟨apply_inv h.inv _ c, apply_64 h.o64 (show In64 _ from ⟨by omega, by omega⟩) hc, (apply_num h.num _ c (by omega)).more (by omega), e1, r2, r3, apply_sts h.sts _ c, by rw [e2]; omega, by omega, by omega, by omega, by omega⟩
theorem good_new : Good 0 new := ⟨new_inv, ⟨⟨by decide, by decide⟩, ⟨by decide, by decide⟩, by simp [new], by simp [new], by simp [new], by simp [new], by simp [new], by simp [new], by simp [new]⟩, new_num.more (Nat.zero_le _), new_evs, new_vers.1, new_vers.2, new_sts, rfl, by simp [new], by simp [new], by simp [new], by simp [new]⟩
end Fsm
end
section
open Go.RowKit
theorem use_none (node : Int) : ∀ l : List AllocD, l.foldl (useStep node) none = none
 | [] => rfl
 | x :: r => by rw [List.foldl_cons]; exact use_none node r
set_option maxHeartbeats 2000000 in
theorem used_any (AA : Option Addr) (nA cA : Nat) (l : List AllocD) (node : Int) (w : World) (s0 s1 s2 s3 s4 s6 s7 s8 : Value) (hl : Sl w 11 AA nA (l.map AllocD.cells)) (hn : nA ≤ 67108864) :
  Calls Tryz.prog 19 #[.agg #[s0, s1, s2, s3, s4, .slice AA nA cA, s6, s7, s8], .int .i64 node] w fun e w' => e = .returned (.agg #[.int .i64 (usedS l node).cpu, .int .i64 (usedS l node).mem]) ∧ Ext Nothing w w' := by
 have hlen := Lib.hid hl.len
 have hx0 : Ext Nothing w (((w.alloc (.cells #[s0, s1, s2, s3, s4, .slice AA nA cA, s6, s7, s8] 30)).alloc (.cells #[.int .i64 0, .int .i64 0] 41)).alloc (.cells #[.int .i64 0, .int .i64 0] 41)) := Ext.auto
 have hR0 : Blk (((w.alloc (.cells #[s0, s1, s2, s3, s4, .slice AA nA cA, s6, s7, s8] 30)).alloc (.cells #[.int .i64 0, .int .i64 0] 41)).alloc (.cells #[.int .i64 0, .int .i64 0] 41)) (w.heap.size + 1) 41 #[.int .i64 0, .int .i64 0] := (Blk.new' (w.alloc (.cells #[s0, s1, s2, s3, s4, .slice AA nA cA, s6, s7, s8] 30)) _ _ (by simp)).e0 Ext.auto
 have hS0 : Blk (((w.alloc (.cells #[s0, s1, s2, s3, s4, .slice AA nA cA, s6, s7, s8] 30)).alloc (.cells #[.int .i64 0, .int .i64 0] 41)).alloc (.cells #[.int .i64 0, .int .i64 0] 41)) (w.heap.size + 1 + 1) 41 #[.int .i64 0, .int .i64 0] := Blk.new' _ _ _ (by simp)
 go_enter Tryz.func19, Tryz.ntmps19
 go_wp2
 go_loopw [12] (fun i wr => ∃ k : Nat, k ≤ nA ∧ i = .int .i64 k ∧ ∃ r1 r2 : Int, (l.take k).foldl (useStep node) (some ⟨0, 0⟩) = some ⟨r1, r2⟩ ∧ Blk wr (w.heap.size + 1) 41 #[.int .i64 0, .int .i64 0] ∧ Blk wr (w.heap.size + 1 + 1) 41 #[.int .i64 r1, .int .i64 r2] ∧ Ext Nothing w wr) (fun i _ => nA - (intOf i).toNat)
 case atStart => exact ⟨0, Nat.zero_le _, rfl, 0, 0, rfl, hR0, hS0, hx0⟩
 case round =>
  obtain ⟨k, hk, rfl, r1, r2, hf, hR, hS, hx⟩ := hrel
  have hwz := hx.size
  have hltS := hS.lt
  by_cases hlt : k < nA
  ·obtain ⟨hjn, b, off, rfl, hce⟩ := hl.get hx hlt
   have hst := foldl_take (useStep node) (some ⟨0, 0⟩) l k hjn
   have htd : l = l.take (k + 1) ++ l.drop (k + 1) := (List.take_append_drop _ _).symm
   rw [hf] at hst
   generalize l[k] = a at hce hst
   obtain ⟨x0, x1, x2, x3, x4, x5, x6, ⟨x7, x8⟩, x9, x10⟩ := a
   simp only [AllocD.cells] at hce
   have hxB : Ext Nothing wr (wr.alloc (.cells #[.int .i64 x0, .int .i64 x1, .int .i64 x2, .int .i64 x3, .int .i64 x4, .int .i64 x5, .int .i64 x6, .int .i64 x7, .int .i64 x8, .bool x9, .int .i64 x10] 58)) := Ext.auto
   have hSB := Blk.ext (S := Nothing) hS hxB (fun e => e)
   have hRB := Blk.ext (S := Nothing) hR hxB (fun e => e)
   by_cases e1 : x5 = node
   ·subst e1
    cases e2 : decide (3 ≤ x10) with
    | true =>
     have H := Lib.hid (show (l.take (k + 1)).foldl (useStep x5) (some ⟨0, 0⟩) = some ⟨r1, r2⟩ by rw [hst]; simp [useStep, overB, of_decide_eq_true e2])
     have HO := Lib.hid e2
     clear hst hf htd e2
     go_wp2_with (first | (refine wpList_load_at rfl 58 _ rfl STAlloc b (off + k * 11) rfl #[.int .i64 x0, .int .i64 x1, .int .i64 x2, .int .i64 x3, .int .i64 x4, .int .i64 x5, .int .i64 x6, .int .i64 x7, .int .i64 x8, .bool x9, .int .i64 x10] (by exact hce) rfl ?_) | (go_at_call 20; refine (over_any _ x10 _ rfl rfl).mono ?_; rintro e w2 ⟨rfl, hx2⟩; rw [HO.out]))
     go_roundw
     case rel => exact ⟨k + 1, by omega, by go_num, r1, r2, H.out, hRB.e0 hx2, hSB.e0 hx2, (hx.tr hxB).tr hx2⟩
     case measure => simp [intOf]; omega
    | false =>
     have HO := Lib.hid e2
     have e3 := of_decide_eq_false e2
     have hst' : (l.take (k + 1)).foldl (useStep x5) (some ⟨0, 0⟩) = addF ⟨r1, r2⟩ ⟨x7, x8⟩ := by rw [hst]; simp [useStep, overB, e3]
     clear e2 e3 hst hf
     cases ha : addF ⟨r1, r2⟩ ⟨x7, x8⟩ with
     | none =>
      have H := Lib.hid (show usedS l x5 = big by unfold usedS; rw [htd, List.foldl_append, hst', ha, use_none]; rfl)
      have HA := Lib.hid ha
      clear hst' htd ha
      go_wp2_with (first | (refine wpList_load_at rfl 58 _ rfl STAlloc b (off + k * 11) rfl #[.int .i64 x0, .int .i64 x1, .int .i64 x2, .int .i64 x3, .int .i64 x4, .int .i64 x5, .int .i64 x6, .int .i64 x7, .int .i64 x8, .bool x9, .int .i64 x10] (by exact hce) rfl ?_) | (go_at_call 20; refine (over_any _ x10 _ rfl rfl).mono ?_; rintro e w2 ⟨rfl, hx2⟩; rw [HO.out]; have hx02 : Ext Nothing wr w2 := hxB.tr hx2; have bA2 := (Blk.new wr 58 #[.int .i64 x0, .int .i64 x1, .int .i64 x2, .int .i64 x3, .int .i64 x4, .int .i64 x5, .int .i64 x6, .int .i64 x7, .int .i64 x8, .bool x9, .int .i64 x10]).e0 hx2; have a7 : w2.cell? ⟨wr.heap.size, 7, none⟩ = some (.int .i64 x7) := bA2.cell 7; have a8 : w2.cell? ⟨wr.heap.size, 8, none⟩ = some (.int .i64 x8) := bA2.cell 8; have hS2 := hS.e0 hx02; have c0 : w2.cell? ⟨w.heap.size + 1 + 1, 0, none⟩ = some (.int .i64 r1) := hS2.cell 0; have c1 : w2.cell? ⟨w.heap.size + 1 + 1, 1, none⟩ = some (.int .i64 r2) := hS2.cell 1) | (go_at_call 37; refine (add_lit _ _ _ _ _).mono ?_; rintro e w3 ⟨rfl, hx3⟩; rw [HA.out]; simp only [optR, Option.getD_none, Option.isSome_none]; have hS3 := hS2.e0 hx3; have hR3 := (hR.e0 hx02).e0 hx3; have d0 : w3.cell? ⟨w.heap.size + 1 + 1, 0, none⟩ = some (.int .i64 r1) := hS3.cell 0; have d1 : w3.cell? ⟨w.heap.size + 1 + 1, 1, none⟩ = some (.int .i64 r2) := hS3.cell 1; have f0 : w3.frozen? ⟨w.heap.size + 1 + 1, 0, none⟩ = false := hS3.frozen 0; have f1 : w3.frozen? ⟨w.heap.size + 1 + 1, 1, none⟩ = false := hS3.frozen 1; have g0 : w3.cell? ⟨w.heap.size + 1, 0, none⟩ = some (.int .i64 0) := hR3.cell 0; have g1 : w3.cell? ⟨w.heap.size + 1, 1, none⟩ = some (.int .i64 0) := hR3.cell 1; have h0 : w3.frozen? ⟨w.heap.size + 1, 0, none⟩ = false := hR3.frozen 0; have h1 : w3.frozen? ⟨w.heap.size + 1, 1, none⟩ = false := hR3.frozen 1))
      refine bodyPost_ret (results_cell rfl STRes (g := w.heap.size + 1) rfl (((hR3.ext (Ext.set1 _ _ _ _) (by omega)).ext (Ext.set1 _ _ _ _) (by omega)) |>.set_ 0 _ |>.set_ 1 _) rfl) rfl ?_
      rw [H.out]
      refine ⟨rfl, ?_⟩
      have h3 := ((hx.tr hxB).tr hx2).tr hx3
      (with_reducible repeat' first | assumption | exact Ext.refl _ _ | refine Ext.alloc ?_ _ | refine Ext.drew ?_ | refine Ext.drewN ?_ _ | refine xS ?_ (by simp only [World.size_alloc, World.size_setCell, World.size_drew] <;> omega) _ | refine Ext.tr ?_ (by assumption))
     | some r =>
      obtain ⟨r3, r4⟩ := r
      have H := Lib.hid (show (l.take (k + 1)).foldl (useStep x5) (some ⟨0, 0⟩) = some ⟨r3, r4⟩ by rw [hst', ha])
      have HA := Lib.hid ha
      clear hst' htd ha
      go_wp2_with (first | (refine wpList_load_at rfl 58 _ rfl STAlloc b (off + k * 11) rfl #[.int .i64 x0, .int .i64 x1, .int .i64 x2, .int .i64 x3, .int .i64 x4, .int .i64 x5, .int .i64 x6, .int .i64 x7, .int .i64 x8, .bool x9, .int .i64 x10] (by exact hce) rfl ?_) | (go_at_call 20; refine (over_any _ x10 _ rfl rfl).mono ?_; rintro e w2 ⟨rfl, hx2⟩; rw [HO.out]; have hx02 : Ext Nothing wr w2 := hxB.tr hx2; have bA2 := (Blk.new wr 58 #[.int .i64 x0, .int .i64 x1, .int .i64 x2, .int .i64 x3, .int .i64 x4, .int .i64 x5, .int .i64 x6, .int .i64 x7, .int .i64 x8, .bool x9, .int .i64 x10]).e0 hx2; have a7 : w2.cell? ⟨wr.heap.size, 7, none⟩ = some (.int .i64 x7) := bA2.cell 7; have a8 : w2.cell? ⟨wr.heap.size, 8, none⟩ = some (.int .i64 x8) := bA2.cell 8; have hS2 := hS.e0 hx02; have c0 : w2.cell? ⟨w.heap.size + 1 + 1, 0, none⟩ = some (.int .i64 r1) := hS2.cell 0; have c1 : w2.cell? ⟨w.heap.size + 1 + 1, 1, none⟩ = some (.int .i64 r2) := hS2.cell 1) | (go_at_call 37; refine (add_lit _ _ _ _ _).mono ?_; rintro e w3 ⟨rfl, hx3⟩; rw [HA.out]; simp only [optR, Option.getD_some, Option.isSome_some]; have hS3 := hS2.e0 hx3; have hR3 := (hR.e0 hx02).e0 hx3; have d0 : w3.cell? ⟨w.heap.size + 1 + 1, 0, none⟩ = some (.int .i64 r1) := hS3.cell 0; have d1 : w3.cell? ⟨w.heap.size + 1 + 1, 1, none⟩ = some (.int .i64 r2) := hS3.cell 1; have f0 : w3.frozen? ⟨w.heap.size + 1 + 1, 0, none⟩ = false := hS3.frozen 0; have f1 : w3.frozen? ⟨w.heap.size + 1 + 1, 1, none⟩ = false := hS3.frozen 1; have g0 : w3.cell? ⟨w.heap.size + 1, 0, none⟩ = some (.int .i64 0) := hR3.cell 0; have g1 : w3.cell? ⟨w.heap.size + 1, 1, none⟩ = some (.int .i64 0) := hR3.cell 1; have h0 : w3.frozen? ⟨w.heap.size + 1, 0, none⟩ = false := hR3.frozen 0; have h1 : w3.frozen? ⟨w.heap.size + 1, 1, none⟩ = false := hR3.frozen 1))
      go_roundw
      case rel =>
       have h3 := ((hx.tr hxB).tr hx2).tr hx3
       exact ⟨k + 1, by omega, by go_num, r3, r4, H.out, (hR3.ext (Ext.set1 _ _ _ _) (by omega)).ext (Ext.set1 _ _ _ _) (by omega), (hS3.set_ 0 _).set_ 1 _, by (with_reducible repeat' first | assumption | exact Ext.refl _ _ | refine Ext.alloc ?_ _ | refine Ext.drew ?_ | refine Ext.drewN ?_ _ | refine xS ?_ (by simp only [World.size_alloc, World.size_setCell, World.size_drew] <;> omega) _ | refine Ext.tr ?_ (by assumption))⟩
      case measure => simp [intOf]; omega
   ·have H := Lib.hid (show (l.take (k + 1)).foldl (useStep node) (some ⟨0, 0⟩) = some ⟨r1, r2⟩ by rw [hst]; simp [useStep, e1])
    have e1a : (x5 == node) = false := by simpa using e1
    clear hst hf htd
    go_wp2_with (refine wpList_load_at rfl 58 _ rfl STAlloc b (off + k * 11) rfl #[.int .i64 x0, .int .i64 x1, .int .i64 x2, .int .i64 x3, .int .i64 x4, .int .i64 x5, .int .i64 x6, .int .i64 x7, .int .i64 x8, .bool x9, .int .i64 x10] (by exact hce) rfl ?_)
    go_roundw
    case rel => exact ⟨k + 1, by omega, by go_num, r1, r2, H.out, hRB, hSB, hx.tr hxB⟩
    case measure => simp [intOf]; omega
  ·have hall := foldl_all (useStep node) (some ⟨0, 0⟩) l k (by have := hlen.out; omega)
   rw [hall] at hf
   have H := Lib.hid (show usedS l node = ⟨r1, r2⟩ by unfold usedS; rw [hf]; rfl)
   clear hf hall
   have c0 : wr.cell? ⟨w.heap.size + 1 + 1, 0, none⟩ = some (.int .i64 r1) := hS.cell 0
   have c1 : wr.cell? ⟨w.heap.size + 1 + 1, 1, none⟩ = some (.int .i64 r2) := hS.cell 1
   have d0 : wr.cell? ⟨w.heap.size + 1, 0, none⟩ = some (.int .i64 0) := hR.cell 0
   have d1 : wr.cell? ⟨w.heap.size + 1, 1, none⟩ = some (.int .i64 0) := hR.cell 1
   have f0 : wr.frozen? ⟨w.heap.size + 1, 0, none⟩ = false := hR.frozen 0
   have f1 : wr.frozen? ⟨w.heap.size + 1, 1, none⟩ = false := hR.frozen 1
   go_wp2
   refine bodyPost_ret (results_cell rfl STRes (g := w.heap.size + 1) rfl ((hR.set_ 0 _).set_ 1 _) rfl) rfl ?_
   rw [H.out]
   exact ⟨rfl, by (with_reducible repeat' first | assumption | exact Ext.refl _ _ | refine Ext.alloc ?_ _ | refine Ext.drew ?_ | refine Ext.drewN ?_ _ | refine xS ?_ (by simp only [World.size_alloc, World.size_setCell, World.size_drew] <;> omega) _ | refine Ext.tr ?_ (by assumption))⟩
end
section
open Go.RowKit
def roomB (l : List AllocD) (x : NodD) : Bool := decide ((usedS l x.id).cpu > x.cap.cpu) || decide ((usedS l x.id).mem > x.cap.mem)
set_option maxHeartbeats 1000000 in
theorem isRoom (x : NodD) (bs : Nat) (s : StoreV) (w : World) (h : s.Ok w) (hb : Blk w bs 30 #[.int .i64 s.index, .int .i64 s.next, .slice s.AJ s.nJ s.cJ, .slice s.AS s.nS s.cS, .slice s.AN s.nN s.cN, .slice s.AA s.nA s.cA, .slice s.AE s.nE s.cE, .slice s.AD s.nD s.cD, .slice s.AX s.nX s.cX]) :
  Calls Tryz.prog 18 #[.agg (NodD.cells x).toArray, .pointer (some ⟨bs, 0, none⟩)] w fun e w' => e = .returned (.bool (roomB s.allocs x)) ∧ Ext Nothing w w' := by
 have hx0 : Ext Nothing w (w.alloc (.cells #[.int .i64 x.id, .int .i64 x.cap.cpu, .int .i64 x.cap.mem, .bool x.up, .bool x.drain, .int .i64 x.boot, .int .i64 x.epoch, .int .i64 x.seq] 43)) := (Ext.refl _ _).alloc _
 have hbs := hb.e0 hx0
 have hbx : Blk (w.alloc (.cells #[.int .i64 x.id, .int .i64 x.cap.cpu, .int .i64 x.cap.mem, .bool x.up, .bool x.drain, .int .i64 x.boot, .int .i64 x.epoch, .int .i64 x.seq] 43)) w.heap.size 43 #[.int .i64 x.id, .int .i64 x.cap.cpu, .int .i64 x.cap.mem, .bool x.up, .bool x.drain, .int .i64 x.boot, .int .i64 x.epoch, .int .i64 x.seq] := Blk.new _ _ _
 have hA := (h.ext0 hx0).sA
 have hmA := h.mA
 unfold roomB
 generalize hu : usedS s.allocs x.id = u
 have HU := Lib.hid hu
 clear hu
 have key : ∀ w1, Ext Nothing (w.alloc (.cells #[.int .i64 x.id, .int .i64 x.cap.cpu, .int .i64 x.cap.mem, .bool x.up, .bool x.drain, .int .i64 x.boot, .int .i64 x.epoch, .int .i64 x.seq] 43)) w1 → w1.cell? ⟨w.heap.size, 1, none⟩ = some (.int .i64 x.cap.cpu) ∧ w1.cell? ⟨w.heap.size, 2, none⟩ = some (.int .i64 x.cap.mem) := fun w1 hx => ⟨(hbx.e0 hx).cell 1, (hbx.e0 hx).cell 2⟩
 show Calls Tryz.prog 18 #[.agg #[.int .i64 x.id, .int .i64 x.cap.cpu, .int .i64 x.cap.mem, .bool x.up, .bool x.drain, .int .i64 x.boot, .int .i64 x.epoch, .int .i64 x.seq], .pointer (some ⟨bs, 0, none⟩)] w _
 go_enter Tryz.func18, Tryz.ntmps18
 cases d1 : decide (u.cpu > x.cap.cpu) with
 | true =>
  have d1' := of_decide_eq_true d1
  go_wp2_with (first | (refine wpList_load_blk rfl 30 _ rfl STStore bs rfl #[.int .i64 s.index, .int .i64 s.next, .slice s.AJ s.nJ s.cJ, .slice s.AS s.nS s.cS, .slice s.AN s.nN s.cN, .slice s.AA s.nA s.cA, .slice s.AE s.nE s.cE, .slice s.AD s.nD s.cD, .slice s.AX s.nX s.cX] (by exact hbs) rfl ?_) | (go_at_call 19; refine (used_any s.AA s.nA s.cA s.allocs x.id _ _ _ _ _ _ _ _ _ hA (by omega)).mono ?_; rintro e w1 ⟨rfl, hx1⟩; rw [HU.out]; have hx2 := hx1.alloc (.cells #[.int .i64 u.cpu, .int .i64 u.mem] 41); obtain ⟨k1, k2⟩ := key _ hx2))
  go_ret
  exact ⟨rfl, (hx0.tr hx1).alloc _⟩
 | false =>
  have d1' := of_decide_eq_false d1
  cases d2 : decide (u.mem > x.cap.mem) with
  | true =>
   have d2' := of_decide_eq_true d2
   go_wp2_with (first | (refine wpList_load_blk rfl 30 _ rfl STStore bs rfl #[.int .i64 s.index, .int .i64 s.next, .slice s.AJ s.nJ s.cJ, .slice s.AS s.nS s.cS, .slice s.AN s.nN s.cN, .slice s.AA s.nA s.cA, .slice s.AE s.nE s.cE, .slice s.AD s.nD s.cD, .slice s.AX s.nX s.cX] (by exact hbs) rfl ?_) | (go_at_call 19; refine (used_any s.AA s.nA s.cA s.allocs x.id _ _ _ _ _ _ _ _ _ hA (by omega)).mono ?_; rintro e w1 ⟨rfl, hx1⟩; rw [HU.out]; have hx2 := hx1.alloc (.cells #[.int .i64 u.cpu, .int .i64 u.mem] 41); obtain ⟨k1, k2⟩ := key _ hx2))
   go_ret
   exact ⟨rfl, (hx0.tr hx1).alloc _⟩
  | false =>
   have d2' := of_decide_eq_false d2
   go_wp2_with (first | (refine wpList_load_blk rfl 30 _ rfl STStore bs rfl #[.int .i64 s.index, .int .i64 s.next, .slice s.AJ s.nJ s.cJ, .slice s.AS s.nS s.cS, .slice s.AN s.nN s.cN, .slice s.AA s.nA s.cA, .slice s.AE s.nE s.cE, .slice s.AD s.nD s.cD, .slice s.AX s.nX s.cX] (by exact hbs) rfl ?_) | (go_at_call 19; refine (used_any s.AA s.nA s.cA s.allocs x.id _ _ _ _ _ _ _ _ _ hA (by omega)).mono ?_; rintro e w1 ⟨rfl, hx1⟩; rw [HU.out]; have hx2 := hx1.alloc (.cells #[.int .i64 u.cpu, .int .i64 u.mem] 41); obtain ⟨k1, k2⟩ := key _ hx2))
   go_ret
   exact ⟨rfl, (hx0.tr hx1).alloc _⟩
set_option maxHeartbeats 1000000 in
theorem ixRoom (A : Option Addr) (n cap : Nat) (l : List (NodD)) (w : World) (hl : Sl w 8 A n (l.map NodD.cells)) (hn : n ≤ 67108864) (bs : Nat) (s : StoreV) (h : s.Ok w) (hb : Blk w bs 30 #[.int .i64 s.index, .int .i64 s.next, .slice s.AJ s.nJ s.cJ, .slice s.AS s.nS s.cS, .slice s.AN s.nN s.cN, .slice s.AA s.nA s.cA, .slice s.AE s.nE s.cE, .slice s.AD s.nD s.cD, .slice s.AX s.nX s.cX]) :
  Calls Tryz.prog 36 #[.slice A n cap, .func (.func 18) #[] #[.pointer (some ⟨bs, 0, none⟩)]] w fun e w' => e = .returned (.int .i64 (idxI (roomB s.allocs) l)) ∧ Ext Nothing w w' := by
 have hlen := Lib.hid hl.len
 go_enter Tryz.func36, Tryz.ntmps36
 go_wp2
 go_loopw [8] (fun i wr => ∃ j : Nat, j ≤ n ∧ i = .int .i64 j ∧ (∀ i < j, ∀ y, l[i]? = some y → (roomB s.allocs) y = false) ∧ Ext Nothing w wr) (fun i _ => n - (intOf i).toNat)
 case atStart => exact ⟨0, Nat.zero_le _, rfl, fun j hj => absurd hj (by omega), Ext.refl _ _⟩
 case round =>
  obtain ⟨j, hj, rfl, hno, hxx⟩ := hrel
  by_cases hlt : j < n
  ·obtain ⟨hjn, b, off, rfl, hce⟩ := hl.get hxx hlt
   have hy : l[j]? = some l[j] := List.getElem?_eq_getElem hjn
   generalize l[j] = x at hce hy
   have hm : x ∈ l := List.mem_of_getElem? hy
   cases hp : (roomB s.allocs) x with
   | true =>
    have hr := Lib.hid (idx_hit (p := roomB s.allocs) hno hy hp)
    have hp' := Lib.hid hp
    clear hno hy hp
    go_wp2_with (first | (refine wpList_load_at rfl 43 _ rfl STNode b (off + j * 8) rfl (NodD.cells x).toArray (by exact hce) rfl ?_) | (go_at_call 18; refine (isRoom x bs s _ (h.ext0 hxx) (hb.e0 hxx)).mono ?_; rintro e w' ⟨rfl, hx1⟩; rw [hp'.out]))
    go_ret
    exact ⟨by rw [hr.out]; rfl, hxx.tr hx1⟩
   | false =>
    have hno' : ∀ i < j + 1, ∀ y, l[i]? = some y → (roomB s.allocs) y = false := fun i hi y hy' => by
     by_cases h : i = j
     ·subst h; rw [hy] at hy'; cases hy'; exact hp
     ·exact hno i (by omega) y hy'
    have HN := Lib.hid hno'
    have hp' := Lib.hid hp
    clear hno hno' hy hp
    go_wp2_with (first | (refine wpList_load_at rfl 43 _ rfl STNode b (off + j * 8) rfl (NodD.cells x).toArray (by exact hce) rfl ?_) | (go_at_call 18; refine (isRoom x bs s _ (h.ext0 hxx) (hb.e0 hxx)).mono ?_; rintro e w' ⟨rfl, hx1⟩; rw [hp'.out]))
    go_roundw
    case rel => exact ⟨j + 1, by omega, by go_num, HN.out, hxx.tr hx1⟩
    case measure => simp [intOf]; omega
  ·have hr := Lib.hid (idx_none (p := roomB s.allocs) (l := l) (fun i hi y hy => hno i (by have := hlen.out; omega) y hy))
   clear hno
   go_wp2
   go_ret
   exact ⟨by rw [hr.out]; rfl, hxx⟩
theorem ctRoom (A : Option Addr) (n cap : Nat) (l : List (NodD)) (w : World) (hl : Sl w 8 A n (l.map NodD.cells)) (hn : n ≤ 67108864) (bs : Nat) (s : StoreV) (h : s.Ok w) (hb : Blk w bs 30 #[.int .i64 s.index, .int .i64 s.next, .slice s.AJ s.nJ s.cJ, .slice s.AS s.nS s.cS, .slice s.AN s.nN s.cN, .slice s.AA s.nA s.cA, .slice s.AE s.nE s.cE, .slice s.AD s.nD s.cD, .slice s.AX s.nX s.cX]) :
  Calls Tryz.prog 17 #[.slice A n cap, .func (.func 18) #[] #[.pointer (some ⟨bs, 0, none⟩)]] w fun e w' => e = .returned (.bool (l.any (roomB s.allocs))) ∧ Ext Nothing w w' := by
 have hi := ixRoom A n cap l w hl hn bs s h hb
 rw [← idx_any (roomB s.allocs) l]
 generalize idxI (roomB s.allocs) l = z at hi ⊢
 go_enter Tryz.func17, Tryz.ntmps17
 cases hz : decide (z ≥ 0) with
 | true =>
  have hz' := of_decide_eq_true hz
  go_wp2_with (go_at_call 36; refine hi.mono ?_; rintro e w1 ⟨rfl, hx1⟩)
  go_ret
  exact ⟨rfl, hx1⟩
 | false =>
  have hz' := of_decide_eq_false hz
  go_wp2_with (go_at_call 36; refine hi.mono ?_; rintro e w1 ⟨rfl, hx1⟩)
  go_ret
  exact ⟨rfl, hx1⟩
theorem room_any (s : StoreV) (w : World) (h : s.Ok w) : Calls Tryz.prog 7 #[.agg #[.int .i64 s.index, .int .i64 s.next, .slice s.AJ s.nJ s.cJ, .slice s.AS s.nS s.cS, .slice s.AN s.nN s.cN, .slice s.AA s.nA s.cA, .slice s.AE s.nE s.cE, .slice s.AD s.nD s.cD, .slice s.AX s.nX s.cX]] w fun e w' => e = .returned (.bool (!(s.nodes.any (roomB s.allocs)))) ∧ Ext Nothing w w' := by
 have hx0 : Ext Nothing w (w.alloc (.cells #[.int .i64 s.index, .int .i64 s.next, .slice s.AJ s.nJ s.cJ, .slice s.AS s.nS s.cS, .slice s.AN s.nN s.cN, .slice s.AA s.nA s.cA, .slice s.AE s.nE s.cE, .slice s.AD s.nD s.cD, .slice s.AX s.nX s.cX] 30)) := Ext.auto
 have hb : Blk (w.alloc (.cells #[.int .i64 s.index, .int .i64 s.next, .slice s.AJ s.nJ s.cJ, .slice s.AS s.nS s.cS, .slice s.AN s.nN s.cN, .slice s.AA s.nA s.cA, .slice s.AE s.nE s.cE, .slice s.AD s.nD s.cD, .slice s.AX s.nX s.cX] 30)) w.heap.size 30 #[.int .i64 s.index, .int .i64 s.next, .slice s.AJ s.nJ s.cJ, .slice s.AS s.nS s.cS, .slice s.AN s.nN s.cN, .slice s.AA s.nA s.cA, .slice s.AE s.nE s.cE, .slice s.AD s.nD s.cD, .slice s.AX s.nX s.cX] := Blk.new _ _ _
 have h1 := h.ext0 hx0
 have hm := h.mN
 generalize hz : (s.nodes.any (roomB s.allocs)) = z
 have HZ := Lib.hid hz
 clear hz
 go_enter Tryz.func7, Tryz.ntmps7
 go_wp2_with (go_at_call 17; refine (ctRoom s.AN s.nN s.cN s.nodes _ h1.sN (by omega) w.heap.size s h1 hb).mono ?_; rintro e w1 ⟨rfl, hx1⟩; rw [HZ.out])
 go_ret
 exact ⟨rfl, hx0.tr hx1⟩
end
end Go.Proofs.YtlpfcmnnmdhaoaaGreat
