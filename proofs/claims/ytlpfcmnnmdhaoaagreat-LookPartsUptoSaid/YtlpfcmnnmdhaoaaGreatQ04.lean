/- Parts of the proof: FsmL FsmE FsmE2 FsmE3 FsmR FsmP -/
import Derived.Test.YtlpfcmnnmdhaoaaGreatQ03
import Derived.Test.YtlpfcmnnmdhaoaaGreatQ02
namespace Go.Proofs.YtlpfcmnnmdhaoaaGreat
set_option linter.unusedVariables false
set_option linter.unusedSimpArgs false
set_option linter.unusedSectionVars false
section
open Go.RowKit
namespace Fsm
def Way (s t : StoreD) : Prop := ∀ a ∈ s.allocs, (∃ b ∈ t.allocs, On a b) ∨ (overB a = true)
def News (s t : StoreD) : Prop := s.next ≤ t.next ∧ ∀ b ∈ t.allocs, (∃ a ∈ s.allocs, On a b) ∨ s.next ≤ b.id
theorem Numb.news {s t : StoreD} (h : Numb s t) : News s t := ⟨by rw [h.1]; exact Int.le_refl _, fun b hb => .inl (h.2.mem hb)⟩
theorem Way.refl (s : StoreD) : Way s s := fun a ha => .inl ⟨a, ha, On.refl a⟩
theorem News.refl (s : StoreD) : News s s := ⟨Int.le_refl _, fun b hb => .inl ⟨b, hb, On.refl b⟩⟩
theorem Way.trans {s t u : StoreD} (h : Way s t) (k : Way t u) (hs : ∀ a ∈ s.allocs, ∀ b ∈ t.allocs, On a b → b.state = a.state ∨ ∃ c ∈ u.allocs, On b c) : Way s u := fun a ha => by
 rcases h a ha with ⟨b, hb, ho⟩ | ho
 ·rcases k b hb with ⟨c, hc, ho'⟩ | hov
  ·exact .inl ⟨c, hc, ho.trans ho'⟩
  ·rcases hs a ha b hb ho with e | ⟨c, hc, ho'⟩
   ·exact .inr (by simp only [overB] at hov ⊢; rwa [e] at hov)
   ·exact .inl ⟨c, hc, ho.trans ho'⟩
 ·exact .inr ho
theorem News.trans {s t u : StoreD} (h : News s t) (k : News t u) : News s u :=
 ⟨Int.le_trans h.1 k.1, fun c hc => by
  rcases k.2 c hc with ⟨b, hb, ho⟩ | hn
  ·rcases h.2 b hb with ⟨a, ha, ho'⟩ | hn
   ·exact .inl ⟨a, ha, ho'.trans ho⟩
   ·exact .inr (by rw [(core_node ho.core).2.2.2.2.2.2.1]; exact hn)
  ·exact .inr (Int.le_trans h.1 hn)⟩
def Stay (s t : StoreD) : Prop := s.next ≤ t.next ∧ (∀ a ∈ s.allocs, a ∈ t.allocs ∨ overB a = true) ∧ ∀ b ∈ t.allocs, b ∈ s.allocs ∨ s.next ≤ b.id
theorem Stay.refl (s : StoreD) : Stay s s := ⟨Int.le_refl _, fun a ha => .inl ha, fun b hb => .inl hb⟩
theorem Stay.trans {s t u : StoreD} (h : Stay s t) (k : Stay t u) : Stay s u :=
 ⟨Int.le_trans h.1 k.1, fun a ha => by
  rcases h.2.1 a ha with h1 | h1
  ·exact k.2.1 a h1
  ·exact .inr h1, fun c hc => by
  rcases k.2.2 c hc with h1 | h1
  ·exact h.2.2 c h1
  ·exact .inr (Int.le_trans h.1 h1)⟩
theorem Stay.news {s t : StoreD} (h : Stay s t) : News s t := ⟨h.1, fun b hb => by
 rcases h.2.2 b hb with h1 | h1
 ·exact .inl ⟨b, h1, On.refl b⟩
 ·exact .inr h1⟩
end Fsm
end
section
open Go.RowKit
namespace Fsm
def putK (k : Int) : List Int → List Int
 | [] => [k]
 | y :: r => if k ≤ y then k :: (y :: r).filter (fun z => !(z == k)) else y :: putK k r
theorem putL_keys {α : Type} (key : α → Int) (x : α) : ∀ l : List α, (putL key x l).map key = putK (key x) (l.map key)
 | [] => rfl
 | y :: r => by
  unfold putL
  rw [List.map_cons, putK]
  split
  ·rw [List.map_cons]
   congr 1
   rw [← List.map_cons]
   generalize y :: r = m
   induction m with
   | nil => rfl
   | cons z t ih =>
    rw [List.filter_cons, List.map_cons, List.filter_cons]
    split <;> simp [ih]
  ·rw [List.map_cons, putL_keys key x r]
theorem filter_off {k : Int} : ∀ {l : List Int}, (∀ y ∈ l, k < y) → l.filter (fun z => !(z == k)) = l
 | [], _ => rfl
 | y :: r, h => by
  have h1 := h y (List.mem_cons_self ..)
  rw [List.filter_cons, show (!(y == k)) = true by simp; omega, if_pos rfl, filter_off (fun z hz => h z (List.mem_cons_of_mem _ hz))]
theorem putK_in {k : Int} : ∀ {l : List Int}, l.Pairwise (· < ·) → k ∈ l → putK k l = l
 | [], _, h => by cases h
 | y :: r, hs, h => by
  rw [List.pairwise_cons] at hs
  unfold putK
  rcases List.mem_cons.1 h with rfl | h
  ·rw [if_pos (Int.le_refl _), List.filter_cons]
   simp only [beq_self_eq_true, Bool.not_true, Bool.false_eq_true, if_false]
   rw [filter_off hs.1]
  ·have := hs.1 k h
   rw [if_neg (by omega), putK_in hs.2 h]
theorem putK_mem {k x : Int} : ∀ {l : List Int}, x ∈ putK k l → x = k ∨ x ∈ l
 | [], h => by simp [putK] at h; exact .inl h
 | y :: r, h => by
  unfold putK at h
  split at h
  ·rcases List.mem_cons.1 h with h | h
   ·exact .inl h
   ·exact .inr (List.mem_filter.1 h).1
  ·rcases List.mem_cons.1 h with h | h
   ·exact .inr (h ▸ List.mem_cons_self ..)
   ·rcases putK_mem h with h | h
    ·exact .inl h
    ·exact .inr (List.mem_cons_of_mem _ h)
theorem putK_sorted {k : Int} : ∀ {l : List Int}, l.Pairwise (· < ·) → (putK k l).Pairwise (· < ·)
 | [], _ => by simp [putK]
 | y :: r, hs => by
  rw [List.pairwise_cons] at hs
  unfold putK
  split
  ·rename_i hk
   rw [List.pairwise_cons]
   refine ⟨fun z hz => ?_, List.Pairwise.sublist List.filter_sublist (List.pairwise_cons.2 hs)⟩
   obtain ⟨h1, h2⟩ := List.mem_filter.1 hz
   have h2' : z ≠ k := by simpa using h2
   rcases List.mem_cons.1 h1 with rfl | h1
   ·omega
   ·have := hs.1 z h1; omega
  ·rename_i hk
   rw [List.pairwise_cons]
   refine ⟨fun z hz => ?_, putK_sorted hs.2⟩
   rcases putK_mem hz with rfl | hz
   ·omega
   ·exact hs.1 z hz
structure Evs (s : StoreD) : Prop where
 keys : s.evals.map EvalD.job = s.jobs.map JobD.id
 sorted : (s.jobs.map JobD.id).Pairwise (· < ·)
 bound : ∀ e ∈ s.evals, 1 ≤ e.index ∧ e.index ≤ s.index
 own : ∀ a ∈ s.allocs, a.job ∈ s.jobs.map JobD.id
def FreshIn (s : StoreD) (job : Int) : Prop := ∃ e ∈ s.evals, e.job = job ∧ e.state = 1 ∧ e.index = s.index
structure Part (s t : StoreD) : Prop where
 jobs : t.jobs.map JobD.id = s.jobs.map JobD.id
 index : t.index = s.index
 evals : s.evals.map EvalD.job = s.jobs.map JobD.id → (s.jobs.map JobD.id).Pairwise (· < ·) → t.evals.map EvalD.job = s.evals.map EvalD.job
 bound : 1 ≤ s.index → (∀ e ∈ s.evals, 1 ≤ e.index ∧ e.index ≤ s.index) → ∀ e ∈ t.evals, 1 ≤ e.index ∧ e.index ≤ s.index
 fresh : ∀ j, FreshIn s j → FreshIn t j
theorem Part.refl (s : StoreD) : Part s s := ⟨rfl, rfl, fun _ _ => rfl, fun _ h => h, fun _ h => h⟩
theorem Part.trans {s t u : StoreD} (h : Part s t) (k : Part t u) : Part s u :=
 ⟨k.jobs.trans h.jobs, k.index.trans h.index, fun a b => (k.evals (by rw [h.evals a b, h.jobs]; exact a) (by rw [h.jobs]; exact b)).trans (h.evals a b),
  fun a b => by have := k.bound (by rw [h.index]; exact a) (by rw [h.index]; exact h.bound a b); rw [h.index] at this; exact this, fun j e => k.fresh j (h.fresh j e)⟩
theorem fold_part {α : Type} {f : StoreD → α → StoreD} (h : ∀ s a, Part s (f s a)) : ∀ (l : List α) (s : StoreD), Part s (l.foldl f s)
 | [], s => Part.refl s
 | a :: r, s => (h s a).trans (fold_part h r (f s a))
theorem Part.same {s t : StoreD} (h1 : t.jobs.map JobD.id = s.jobs.map JobD.id) (h2 : t.index = s.index) (h3 : t.evals = s.evals) : Part s t :=
 ⟨h1, h2, fun _ _ => by rw [h3], fun _ b => by rw [h3]; exact b, fun j ⟨e, a, b⟩ => ⟨e, by rw [h3]; exact a, by rw [h2]; exact b⟩⟩
theorem Part.pre {s t u : StoreD} (h1 : t.jobs.map JobD.id = s.jobs.map JobD.id) (h2 : t.index = s.index) (h3 : t.evals = s.evals) (k : Part t u) : Part s u := (Part.same h1 h2 h3).trans k
theorem Part.post {s t u : StoreD} (k : Part s t) (h1 : u.jobs.map JobD.id = t.jobs.map JobD.id) (h2 : u.index = t.index) (h3 : u.evals = t.evals) : Part s u := k.trans (Part.same h1 h2 h3)
theorem jobAt_mem {s : StoreD} {x : Int} {j : JobD} (h : jobAt s x = some j) : j.id = x ∧ j ∈ s.jobs := by
 have := List.find?_some h
 exact ⟨by simpa using this, List.mem_of_find?_eq_some h⟩
theorem putL_self {α : Type} (key : α → Int) (x : α) : ∀ l : List α, x ∈ putL key x l
 | [] => by simp [putL]
 | y :: r => by
  unfold putL
  split
  ·exact List.mem_cons_self ..
  ·exact List.mem_cons_of_mem _ (putL_self key x r)
theorem putL_keep {α : Type} (key : α → Int) (x : α) : ∀ (l : List α) {y : α}, y ∈ l → key y ≠ key x → y ∈ putL key x l
 | [], _, h, _ => by cases h
 | z :: r, y, h, hk => by
  unfold putL
  split
  ·exact List.mem_cons_of_mem _ (List.mem_filter.2 ⟨h, by simpa using hk⟩)
  ·rcases List.mem_cons.1 h with rfl | h
   ·exact List.mem_cons_self ..
   ·exact List.mem_cons_of_mem _ (putL_keep key x r h hk)
theorem eval_part (s : StoreD) (job : Int) : Part s (eval s job) := by
 unfold eval
 split
 ·exact Part.refl s
 ·rename_i j hj
  obtain ⟨hid, hm⟩ := jobAt_mem hj
  refine ⟨rfl, rfl, fun a b => ?_, fun a b e he => ?_, fun k ⟨e, h1, h2, h3, h4⟩ => ?_⟩
  ·rw [putL_keys, a, putK_in b (List.mem_map.2 ⟨j, hm, hid⟩)]
  ·rcases putL_mem he with rfl | ⟨he, _⟩
   ·exact ⟨a, Int.le_refl _⟩
   ·exact b e he
  ·by_cases hk : k = job
   ·subst hk
    exact ⟨_, putL_self _ _ _, rfl, rfl, rfl⟩
   ·exact ⟨e, putL_keep _ _ _ h1 (by simp only; omega), h2, h3, h4⟩
theorem eval_fresh {s : StoreD} {job : Int} (h : job ∈ s.jobs.map JobD.id) : FreshIn (eval s job) job := by
 unfold eval
 cases hj : jobAt s job with
 | none =>
  obtain ⟨j, hm, e⟩ := List.mem_map.1 h
  have := List.find?_eq_none.1 hj j hm
  simp [e] at this
 | some j => exact ⟨_, putL_self _ _ _, rfl, rfl, rfl⟩
theorem came_part (s : StoreD) : Part s (came s) := by
 have hk : ∀ e, (cameE s.index e).job = e.job := fun e => by unfold cameE; split <;> rfl
 refine ⟨rfl, rfl, fun _ _ => ?_, fun a b e he => ?_, fun k ⟨e, h1, h2, h3, h4⟩ => ?_⟩
 ·rw [came, List.map_map]
  exact List.map_congr_left (fun e _ => hk e)
 ·obtain ⟨d, hd, rfl⟩ := List.mem_map.1 he
  unfold cameE
  split
  ·exact ⟨a, Int.le_refl _⟩
  ·exact b d hd
 ·refine ⟨cameE s.index e, List.mem_map_of_mem h1, by rw [hk]; exact h2, ?_, ?_⟩
  ·unfold cameE; split; rfl; exact h3
  ·unfold cameE; split; rfl; exact h4
theorem system_part (s : StoreD) : Part s (system s) := fold_part (fun t j => by split; exact eval_part t j.id; exact Part.refl t) s.jobs s
theorem look_part (s : StoreD) (i : Nat) : Part s (lookStep s i) := by
 unfold lookStep
 split
 ·exact Part.refl s
 ·split
  ·exact Part.refl s
  ·split <;> exact Part.same rfl rfl rfl
theorem looked_part (s : StoreD) : Part s (looked s) := fold_part look_part _ s
theorem report_part (n : NodD) (z : StoreD × Bool) (r : Int × Int) : Part z.1 (report n z r).1 := by
 unfold report
 split
 ·exact Part.refl _
 ·split
  ·exact Part.refl _
  ·simp only
   split
   ·refine Part.pre ?_ ?_ ?_ (eval_part _ _) <;> rfl
   ·split
    ·exact Part.same rfl rfl rfl
    ·split
     ·exact Part.same rfl rfl rfl
     ·refine Part.post (t := eval { z.1 with allocs := turn1 (fun a => a.id == r.1) (fun a => { a with state := r.2 }) z.1.allocs } _) ?_ rfl rfl rfl
      refine Part.pre ?_ ?_ ?_ (eval_part _ _) <;> rfl
end Fsm
end
section
open Go.RowKit
namespace Fsm
theorem Ons.at_ : ∀ {l m : List AllocD}, Ons l m → ∀ {i : Nat} {a b : AllocD}, l[i]? = some a → m[i]? = some b → On a b
 | [], [], _, _, _, _, h, _ => by simp at h
 | [], _ :: _, h, _, _, _, _, _ => h.elim
 | _ :: _, [], h, _, _, _, _, _ => h.elim
 | _ :: _, _ :: _, h, 0, _, _, h1, h2 => by cases h1; cases h2; exact h.1
 | _ :: _, _ :: _, h, i + 1, _, _, h1, h2 => Ons.at_ h.2 (by simpa using h1) (by simpa using h2)
theorem Ons.length : ∀ {l m : List AllocD}, Ons l m → m.length = l.length
 | [], [], _ => rfl
 | [], _ :: _, h => h.elim
 | _ :: _, [], h => h.elim
 | _ :: _, _ :: _, h => by simp [Ons.length h.2]
structure Over (s t : StoreD) : Prop where
 part : Part s t
 ons : Ons s.allocs t.allocs
 fresh : (∀ a ∈ s.allocs, a.job ∈ s.jobs.map JobD.id) → ∀ (i : Nat) a b, s.allocs[i]? = some a → t.allocs[i]? = some b → overB a = false → overB b = true → FreshIn t b.job
theorem Over.own {s t : StoreD} (h : Over s t) (o : ∀ a ∈ s.allocs, a.job ∈ s.jobs.map JobD.id) : ∀ b ∈ t.allocs, b.job ∈ t.jobs.map JobD.id := fun b hb => by
 obtain ⟨a, ha, ho⟩ := h.ons.mem hb
 rw [h.part.jobs, (core_node ho.core).2.2.1]
 exact o a ha
theorem Over.trans {s t u : StoreD} (h : Over s t) (k : Over t u) : Over s u :=
 ⟨h.part.trans k.part, h.ons.trans k.ons, fun o i a c ha hc hla hoc => by
  have hl := h.ons.length
  have hi : i < t.allocs.length := by have := (List.getElem?_eq_some_iff.1 ha).1; omega
  have hb := List.getElem?_eq_getElem hi
  cases hob : overB t.allocs[i] with
  | true =>
   have h1 := k.part.fresh _ (h.fresh o i a _ ha hb hla hob)
   rwa [(core_node (k.ons.at_ hb hc).core).2.2.1]
  | false => exact k.fresh (h.own o) i _ c hb hc hob hoc⟩
theorem Over.keep {s t : StoreD} (p : Part s t) (h : t.allocs = s.allocs) : Over s t :=
 ⟨p, by rw [h]; exact Ons.refl _, fun _ i a b ha hb h1 h2 => by rw [h, ha] at hb; cases hb; rw [h1] at h2; cases h2⟩
theorem Over.refl (s : StoreD) : Over s s := Over.keep (Part.refl s) rfl
theorem fold_over {α : Type} {f : StoreD → α → StoreD} (h : ∀ s a, Over s (f s a)) : ∀ (l : List α) (s : StoreD), Over s (l.foldl f s)
 | [], s => Over.refl s
 | a :: r, s => (h s a).trans (fold_over h r (f s a))
theorem set_over (s : StoreD) (m : List AllocD) (a : AllocD) (hm : Ons s.allocs m) (ha : a ∈ s.allocs) (h1 : ∀ (i : Nat) x b, s.allocs[i]? = some x → m[i]? = some b → overB x = false → overB b = true → b.job = a.job) : Over s (eval { s with allocs := m } a.job) := by
 have hk := eval_kept { s with allocs := m } a.job
 have hp : Part s (eval { s with allocs := m } a.job) := by refine Part.pre ?_ ?_ ?_ (eval_part _ _) <;> rfl
 refine ⟨hp, by rw [hk.2]; exact hm, fun o i x b hx hb hlx hob => ?_⟩
 rw [hk.2] at hb
 rw [h1 i x b hx hb hlx hob]
 exact eval_fresh (s := { s with allocs := m }) (o a ha)
theorem lostStep_over (node : Int) (s : StoreD) (i : Nat) : Over s (lostStep node s i) := by
 have ho := (lost_step node s i).2.1
 unfold lostStep at ho ⊢
 split
 ·exact Over.refl s
 ·rename_i a hi
  rw [hi] at ho
  simp only at ho
  split
  ·rename_i hc
   rw [if_pos hc] at ho
   rw [(eval_kept { s with allocs := s.allocs.set i { a with state := 6 } } a.job).2] at ho
   refine set_over s _ a ho (List.mem_of_getElem? hi) (fun j x b hx hb hlx hob => ?_)
   by_cases hij : j = i
   ·subst hij
    rw [List.getElem?_set_self (List.getElem?_eq_some_iff.1 hi).1] at hb
    cases hb; rfl
   ·rw [List.getElem?_set_ne (Ne.symm hij), hx] at hb
    cases hb; rw [hlx] at hob; cases hob
  ·exact Over.refl s
theorem lost_over (s : StoreD) (node : Int) : Over s (lost s node) := fold_over (lostStep_over node) _ s
theorem system_over (s : StoreD) : Over s (system s) := Over.keep (system_part s) (system_kept s).2
theorem came_over (s : StoreD) : Over s (came s) := Over.keep (came_part s) rfl
theorem looked_over (s : StoreD) : Over s (looked s) := Over.keep (looked_part s) (looked_kept s).2
theorem joins_over (s : StoreD) (n : NodD) : Over s (joins s n) := by
 unfold joins
 exact (((Over.keep (s := s) (t := { s with nodes := putL NodD.id n s.nodes }) (Part.same rfl rfl rfl) rfl).trans (lost_over _ n.id)).trans (system_over _)).trans (came_over _)
theorem turn1_at (p : AllocD → Bool) (f : AllocD → AllocD) : ∀ (l : List AllocD) (i : Nat) x b, l[i]? = some x → (turn1 p f l)[i]? = some b → b = x ∨ (l.find? p = some x ∧ b = f x)
 | [], _, _, _, h, _ => by simp at h
 | y :: r, i, x, b, hx, hb => by
  unfold turn1 at hb
  split at hb
  ·rename_i hp
   cases i with
   | zero => cases hx; cases hb; exact .inr ⟨by rw [List.find?_cons, hp], rfl⟩
   | succ i => simp at hx hb; rw [hx] at hb; cases hb; exact .inl rfl
  ·rename_i hp
   have hp' : p y = false := by simpa using hp
   cases i with
   | zero => cases hx; cases hb; exact .inl rfl
   | succ i =>
    rcases turn1_at p f r i x b (by simpa using hx) (by simpa using hb) with h | ⟨h1, h2⟩
    ·exact .inl h
    ·exact .inr ⟨by rw [List.find?_cons, hp']; exact h1, h2⟩
theorem report_over (n : NodD) (z : StoreD × Bool) (r : Int × Int) : Over z.1 (report n z r).1 := by
 have ho := (report_spec n z r).2
 have hp := report_part n z r
 unfold report at ho hp ⊢
 cases ha : z.1.allocs.find? (fun a => a.id == r.1) with
 | none => exact Over.refl _
 | some a =>
  rw [ha] at ho hp
  simp only at ho hp ⊢
  cases ht : takes n a r.2 with
  | false => exact Over.refl _
  | true =>
   rw [ht] at ho hp
   simp only [Bool.not_true, Bool.false_eq_true, if_false] at ho hp ⊢
   have hjob : ∀ (i : Nat) x b, z.1.allocs[i]? = some x → (turn1 (fun a => a.id == r.1) (fun a => { a with state := r.2 }) z.1.allocs)[i]? = some b → overB x = false → overB b = true → b.job = a.job ∧ 3 ≤ r.2 := fun i x b hx hb hlx hob => by
    rcases turn1_at _ _ _ i x b hx hb with h | ⟨h1, h2⟩
    ·subst h; rw [hlx] at hob; cases hob
    ·rw [ha] at h1; cases h1
     subst h2
     exact ⟨rfl, by simpa [overB] using hob⟩
   split
   ·rename_i h3
    rw [if_pos h3] at ho
    rw [(eval_kept { z.1 with allocs := turn1 (fun a => a.id == r.1) (fun a => { a with state := r.2 }) z.1.allocs } a.job).2] at ho
    exact set_over z.1 _ a ho (List.mem_of_find?_eq_some ha) (fun i x b hx hb h1 h2 => (hjob i x b hx hb h1 h2).1)
   ·rename_i h3
    rw [if_neg h3] at ho hp
    have hall : ∀ t : StoreD, t.allocs = turn1 (fun a => a.id == r.1) (fun a => { a with state := r.2 }) z.1.allocs → Part z.1 t → Ons z.1.allocs t.allocs → Over z.1 t := fun t he hpt hot =>
     ⟨hpt, hot, fun _ i x b hx hb h1 h2 => by rw [he] at hb; exact absurd (hjob i x b hx hb h1 h2).2 h3⟩
    revert ho hp
    split
    ·intro ho hp; exact hall _ rfl hp ho
    ·split
     ·intro ho hp; exact hall _ rfl hp ho
     ·intro ho hp
      exact hall _ (eval_kept { z.1 with allocs := turn1 (fun a => a.id == r.1) (fun a => { a with state := r.2 }) z.1.allocs } a.job).2 hp ho
theorem reports_over (n : NodD) : ∀ (l : List (Int × Int)) (z : StoreD × Bool), Over z.1 (l.foldl (report n) z).1
 | [], z => Over.refl _
 | r :: l, z => (report_over n z r).trans (reports_over n l (report n z r))
end Fsm
end
section
open Go.RowKit
namespace Fsm
theorem Evs.part {s t : StoreD} (h : Evs s) (p : Part s t) (hi : 1 ≤ s.index) (ho : ∀ b ∈ t.allocs, b.job ∈ s.jobs.map JobD.id) : Evs t :=
 ⟨(p.evals h.keys h.sorted).trans (h.keys.trans p.jobs.symm), by rw [p.jobs]; exact h.sorted, by rw [p.index]; exact p.bound hi h.bound, by rw [p.jobs]; exact ho⟩
theorem Evs.over {s t : StoreD} (h : Evs s) (o : Over s t) (hi : 1 ≤ s.index) : Evs t :=
 h.part o.part hi (fun b hb => by have := o.own h.own b hb; rwa [o.part.jobs] at this)
theorem looked_evals (s : StoreD) : (looked s).evals = s.evals ∧ (looked s).jobs = s.jobs ∧ (looked s).index = s.index := by
 have one : ∀ (s : StoreD) (i : Nat), (lookStep s i).evals = s.evals ∧ (lookStep s i).jobs = s.jobs ∧ (lookStep s i).index = s.index := fun s i => by
  unfold lookStep
  split
  ·exact ⟨rfl, rfl, rfl⟩
  ·split
   ·exact ⟨rfl, rfl, rfl⟩
   ·split <;> exact ⟨rfl, rfl, rfl⟩
 have all : ∀ (l : List Nat) (s : StoreD), (l.foldl lookStep s).evals = s.evals ∧ (l.foldl lookStep s).jobs = s.jobs ∧ (l.foldl lookStep s).index = s.index := fun l => by
  induction l with
  | nil => intro s; exact ⟨rfl, rfl, rfl⟩
  | cons i r ih =>
   intro s
   obtain ⟨h1, h2, h3⟩ := ih (lookStep s i)
   obtain ⟨g1, g2, g3⟩ := one s i
   exact ⟨h1.trans g1, h2.trans g2, h3.trans g3⟩
 exact all _ s
theorem begins_evs {s : StoreD} (h : Evs s) (hi : 1 ≤ s.index) (j : JobD) : Evs (begins s j) ∧ FreshIn (begins s j) j.id ∧ (begins s j).index = s.index := by
 obtain ⟨t, ht, e1, e2, e3, e4⟩ : ∃ t : StoreD, begins s j = eval t j.id ∧ t.jobs = putL JobD.id j s.jobs ∧ t.evals = s.evals ∧ t.index = s.index ∧ t.allocs = s.allocs := by
  unfold begins
  refine ⟨_, rfl, ?_⟩
  simp only
  split
  ·obtain ⟨g1, g2, g3⟩ := looked_evals { s with jobs := putL JobD.id j s.jobs, deploys := putL DepD.job ⟨j.id, j.ver, 1, s.index⟩ s.deploys }
   exact ⟨g2, g1, g3, (looked_kept _).2⟩
  ·exact ⟨rfl, rfl, rfl, rfl⟩
 rw [ht]
 have hk : t.jobs.map JobD.id = putK j.id (s.jobs.map JobD.id) := by rw [e1, putL_keys]
 have hin : j.id ∈ t.jobs.map JobD.id := by rw [e1]; exact List.mem_map_of_mem (putL_self _ _ _)
 have hkept := eval_kept t j.id
 refine ⟨?_, eval_fresh hin, ?_⟩
 ·unfold eval at hkept ⊢
  cases hj : jobAt t j.id with
  | none =>
   obtain ⟨q, hm, e⟩ := List.mem_map.1 hin
   have := List.find?_eq_none.1 hj q hm
   simp [e] at this
  | some q =>
   simp only
   refine ⟨?_, ?_, fun e he => ?_, fun a ha => ?_⟩
   ·rw [putL_keys, e2, h.keys, hk]
   ·rw [hk]; exact putK_sorted h.sorted
   ·rcases putL_mem he with rfl | ⟨he, _⟩
    ·exact ⟨by rw [e3]; exact hi, Int.le_refl _⟩
    ·rw [e2] at he; rw [e3]; exact h.bound e he
   ·have ha' : a ∈ s.allocs := by rw [← e4]; exact ha
    obtain ⟨q', hq, e⟩ := List.mem_map.1 (h.own a ha')
    by_cases hqj : q'.id = j.id
    ·rw [← e, hqj]; exact hin
    ·rw [← e]
     show q'.id ∈ t.jobs.map JobD.id
     rw [e1]
     exact List.mem_map_of_mem (putL_keep _ _ _ hq hqj)
 ·rw [(eval_part t j.id).index, e3]
theorem placeAll_own (j : JobD) (n : NodD) : ∀ (l : List AllocD) (s t : StoreD), placeAll j n l s = some t → t.jobs = s.jobs ∧ t.index = s.index ∧ t.evals = s.evals ∧ ∀ b ∈ t.allocs, b ∈ s.allocs ∨ b.job = j.id
 | [], s, t, e => by cases e; exact ⟨rfl, rfl, rfl, fun b hb => .inl hb⟩
 | x :: r, s, t, e => by
  unfold placeAll at e
  rw [List.foldl_cons, show placeStep j n (some s) x = if mayP s j n x then some (placed s j n x) else none from rfl] at e
  split at e
  ·obtain ⟨h1, h2, h3, h4⟩ := placeAll_own j n r (placed s j n x) t e
   refine ⟨h1, h2, h3, fun b hb => ?_⟩
   rcases h4 b hb with h5 | h5
   ·rcases List.mem_append.1 h5 with h5 | h5
    ·exact .inl h5
    ·rw [List.mem_singleton] at h5; subst h5; exact .inr rfl
   ·exact .inr h5
  ·rw [placeAll_none] at e; cases e
theorem places_own (s : StoreD) (j : JobD) (node : Int) (l : List AllocD) : (places s j node l).1.jobs = s.jobs ∧ (places s j node l).1.index = s.index ∧ (places s j node l).1.evals = s.evals ∧ ∀ b ∈ (places s j node l).1.allocs, b ∈ s.allocs ∨ b.job = j.id := by
 have h0 : s.jobs = s.jobs ∧ s.index = s.index ∧ s.evals = s.evals ∧ ∀ b ∈ s.allocs, b ∈ s.allocs ∨ b.job = j.id := ⟨rfl, rfl, rfl, fun b hb => .inl hb⟩
 unfold places
 split
 ·exact h0
 ·split
  ·exact h0
  ·split
   ·exact h0
   ·rename_i t ht
    obtain ⟨h1, h2, h3, h4⟩ := placeAll_own j _ _ s t ht
    split
    ·exact h0
    ·rename_i m hm
     exact ⟨h1, h2, h3, fun b hb => h4 b ((trim_sub _ _ _ _ hm).subset hb)⟩
theorem turn1_mem {α : Type} (p : α → Bool) (f : α → α) : ∀ (l : List α) {y : α}, y ∈ turn1 p f l → y ∈ l ∨ ∃ x ∈ l, y = f x
 | [], _, h => by cases h
 | x :: r, y, h => by
  unfold turn1 at h
  split at h
  ·rcases List.mem_cons.1 h with h | h
   ·exact .inr ⟨x, List.mem_cons_self .., h⟩
   ·exact .inl (List.mem_cons_of_mem _ h)
  ·rcases List.mem_cons.1 h with h | h
   ·exact .inl (h ▸ List.mem_cons_self ..)
   ·rcases turn1_mem p f r h with h | ⟨z, hz, e⟩
    ·exact .inl (List.mem_cons_of_mem _ h)
    ·exact .inr ⟨z, List.mem_cons_of_mem _ hz, e⟩
theorem plan_evs {s : StoreD} (h : Evs s) (hi : 1 ≤ s.index) (c : CmdD) : Evs (plan s c).1 ∧ (plan s c).1.index = s.index := by
 unfold plan
 simp only
 split
 ·rename_i j e hj _
  split
  ·exact ⟨h, rfl⟩
  ·have hjm := jobAt_mem hj
   have h2 : ∀ (l : List Int) (z : StoreD × Bool), (∀ b ∈ z.1.allocs, b.job ∈ s.jobs.map JobD.id) → (l.foldl (fun z n => ((places z.1 j n c.plan.places).1, z.2 && (places z.1 j n c.plan.places).2)) z).1.jobs = z.1.jobs ∧ (l.foldl (fun z n => ((places z.1 j n c.plan.places).1, z.2 && (places z.1 j n c.plan.places).2)) z).1.index = z.1.index ∧ (l.foldl (fun z n => ((places z.1 j n c.plan.places).1, z.2 && (places z.1 j n c.plan.places).2)) z).1.evals = z.1.evals ∧ ∀ b ∈ (l.foldl (fun z n => ((places z.1 j n c.plan.places).1, z.2 && (places z.1 j n c.plan.places).2)) z).1.allocs, b.job ∈ s.jobs.map JobD.id := fun l => by
    induction l with
    | nil => intro z hz; exact ⟨rfl, rfl, rfl, hz⟩
    | cons n r ih =>
     intro z hz
     obtain ⟨g1, g2, g3, g4⟩ := places_own z.1 j n c.plan.places
     obtain ⟨k1, k2, k3, k4⟩ := ih ((places z.1 j n c.plan.places).1, z.2 && (places z.1 j n c.plan.places).2) (fun b hb => by
      rcases g4 b hb with h5 | h5
      ·exact hz b h5
      ·rw [h5]; exact List.mem_map_of_mem hjm.2)
     exact ⟨k1.trans g1, k2.trans g2, k3.trans g3, k4⟩
   obtain ⟨k1, k2, k3, k4⟩ := h2 (nodesUp c.plan.places) ({ s with allocs := stops c.plan.job s.allocs c.plan.stops }, true) (fun b hb => by
    obtain ⟨a, ha, ho⟩ := (stops_ons c.plan.job c.plan.stops s.allocs).mem hb
    rw [(core_node ho.core).2.2.1]; exact h.own a ha)
   have fin : ∀ f : EvalD → EvalD, (∀ e, (f e).job = e.job ∧ ((f e).index = e.index ∨ (f e).index = s.index)) → ∀ z : StoreD, z.jobs = s.jobs → z.index = s.index → z.evals = s.evals → (∀ b ∈ z.allocs, b.job ∈ s.jobs.map JobD.id) → Evs { z with evals := turn1 (fun e => e.job == c.plan.job) f z.evals } := fun f hf z z1 z2 z3 z4 => by
    refine ⟨?_, by simp only; rw [z1]; exact h.sorted, fun e he => ?_, by simp only; rw [z1]; exact z4⟩
    ·simp only; rw [turn1_map _ _ _ (fun e => (hf e).1), z3, z1]; exact h.keys
    ·simp only at he ⊢
     rw [z3] at he
     rw [z2]
     rcases turn1_mem _ _ _ he with he | ⟨x, hx, rfl⟩
     ·exact h.bound e he
     ·rcases (hf x).2 with e1 | e1
      ·rw [e1]; exact h.bound x hx
      ·rw [e1]; exact ⟨hi, Int.le_refl _⟩
   split
   ·exact ⟨fin (fun e => { e with index := s.index }) (fun e => ⟨rfl, .inr rfl⟩) _ k1 k2 k3 k4, k2⟩
   ·exact ⟨fin (fun e => { e with state := if c.plan.blocked then 2 else 3 }) (fun e => ⟨rfl, .inl rfl⟩) _ k1 k2 k3 k4, k2⟩
 ·exact ⟨h, rfl⟩
theorem Over.pre {s t u : StoreD} (h1 : t.jobs.map JobD.id = s.jobs.map JobD.id) (h2 : t.index = s.index) (h3 : t.evals = s.evals) (h4 : t.allocs = s.allocs) (k : Over t u) : Over s u := (Over.keep (Part.same h1 h2 h3) h4).trans k
theorem eval_over (s : StoreD) (j : Int) : Over s (eval s j) := Over.keep (eval_part s j) (eval_kept s j).2
theorem command_evs {s : StoreD} (h : Evs s) (hi : 1 ≤ s.index) (c : CmdD) : Evs (command s c).1 ∧ (command s c).1.index = s.index := by
 have h0 : Evs s ∧ s.index = s.index := ⟨h, rfl⟩
 have ho : ∀ {t : StoreD}, Over s t → Evs t ∧ t.index = s.index := fun o => ⟨h.over o hi, o.part.index⟩
 have hb : ∀ {t : StoreD} (j : JobD), Over s t → Evs (begins t j) ∧ (begins t j).index = s.index := fun {t} j o => by
  have h1 := h.over o hi
  obtain ⟨g1, _, g3⟩ := begins_evs h1 (by rw [o.part.index]; exact hi) j
  exact ⟨g1, g3.trans o.part.index⟩
 unfold command
 repeat' split
 ·exact h0
 ·unfold submit
  split
  ·exact h0
  ·split
   ·split
    ·exact h0
    ·exact hb _ (Over.refl s)
   ·split
    ·exact h0
    ·exact hb _ (Over.refl s)
 ·unfold cancel
  split
  ·exact h0
  ·refine ho (Over.pre (s := s) ?_ ?_ ?_ ?_ (eval_over _ _))
   ·exact turn1_map (fun j : JobD => j.id == c.job.id) (fun j => { j with stopped := true }) JobD.id (fun _ => rfl) s.jobs
   all_goals rfl
 ·unfold register
  split
  ·exact h0
  ·split
   ·exact ho (joins_over _ _)
   ·split
    ·exact h0
    ·split
     ·split <;> exact h0
     ·exact ho (joins_over _ _)
 ·unfold beat
  split
  ·exact h0
  ·split
   ·exact h0
   ·split
    ·exact h0
    ·split
     ·exact h0
     ·simp only
      have h1 : Over s (c.reports.foldl (report c.node) ({ s with nodes := turn1 (fun n => n.id == c.node.id) (fun n => { n with seq := c.node.seq }) s.nodes }, false)).1 := Over.trans (t := { s with nodes := turn1 (fun n => n.id == c.node.id) (fun n => { n with seq := c.node.seq }) s.nodes }) (Over.keep (Part.same rfl rfl rfl) rfl) (reports_over c.node c.reports ({ s with nodes := turn1 (fun n => n.id == c.node.id) (fun n => { n with seq := c.node.seq }) s.nodes }, false))
      have h2 := h1.trans (looked_over _)
      split
      ·exact ho (h2.trans (came_over _))
      ·exact ho h2
 ·unfold down
  split
  ·exact h0
  ·split
   ·exact h0
   ·split
    ·exact h0
    ·refine ho (Over.trans ?_ (system_over _))
     refine Over.pre (s := s) ?_ ?_ ?_ ?_ (lost_over _ _) <;> rfl
 ·unfold drain
  split
  ·exact h0
  ·simp only
   have h1 : Over s (system (s.allocs.foldl (fun t a => if a.node == c.node.id && !overB a then eval t a.job else t) { s with nodes := turn1 (fun n => n.id == c.node.id) (fun n => { n with drain := c.node.drain }) s.nodes })) := by
    refine Over.trans ?_ (system_over _)
    refine Over.pre (s := s) (t := { s with nodes := turn1 (fun n => n.id == c.node.id) (fun n => { n with drain := c.node.drain }) s.nodes }) rfl rfl rfl rfl (fold_over (f := fun t a => if a.node == c.node.id && !overB a then eval t a.job else t) (fun t a => ?_) _ _)
    split
    ·exact eval_over t a.job
    ·exact Over.refl t
   split
   ·exact ho h1
   ·exact ho (h1.trans (came_over _))
 ·exact plan_evs h hi c
 ·unfold revert
  split
  ·exact h0
  ·split
   ·exact h0
   ·split
    ·exact h0
    ·simp only
     split
     ·refine ho (Over.pre (s := s) ?_ ?_ ?_ ?_ (eval_over _ _)) <;> rfl
     ·split
      ·refine ho (Over.pre (s := s) ?_ ?_ ?_ ?_ (eval_over _ _)) <;> rfl
      ·split
       ·exact h0
       ·refine hb _ (Over.pre (s := s) ?_ ?_ ?_ ?_ (Over.refl _)) <;> rfl
 ·exact h0
theorem apply_evs {s : StoreD} (h : Evs s) (ix : Int) (c : CmdD) (hx : s.index ≤ ix) (hi : 1 ≤ ix) : Evs (apply s ix c).1 ∧ (apply s ix c).1.index = ix := by
 have h1 : Evs { s with index := ix } := ⟨h.keys, h.sorted, fun e he => ⟨(h.bound e he).1, Int.le_trans (h.bound e he).2 hx⟩, h.own⟩
 obtain ⟨g1, g2⟩ := command_evs h1 hi c
 unfold apply
 simp only
 split
 ·exact ⟨g1, g2⟩
 ·split
  ·exact ⟨h1, rfl⟩
  ·split
   ·split <;> exact ⟨h1, rfl⟩
   ·exact ⟨⟨g1.keys, g1.sorted, g1.bound, g1.own⟩, g2⟩
theorem new_evs : Evs new := ⟨rfl, by simp [new], by simp [new], by simp [new]⟩
end Fsm
end
section
open Go.RowKit
namespace Fsm
def JS (s t : StoreD) : Prop := t.jobs = s.jobs
theorem fold_js {α : Type} {f : StoreD → α → StoreD} (h : ∀ s a, JS s (f s a)) : ∀ (l : List α) (s : StoreD), JS s (l.foldl f s)
 | [], s => rfl
 | a :: r, s => (fold_js h r (f s a)).trans (h s a)
theorem eval_js (s : StoreD) (j : Int) : JS s (eval s j) := by unfold eval; split <;> rfl
theorem system_js (s : StoreD) : JS s (system s) := fold_js (fun t j => by split; exact eval_js t j.id; rfl) s.jobs s
theorem looked_js (s : StoreD) : JS s (looked s) := (looked_evals s).2.1
theorem lost_js (s : StoreD) (node : Int) : JS s (lost s node) := fold_js (fun t i => by
 unfold lostStep
 split
 ·rfl
 ·split
  ·exact eval_js _ _
  ·rfl) _ s
theorem joins_js (s : StoreD) (n : NodD) : JS s (joins s n) := by
 unfold joins
 exact (system_js _).trans (lost_js _ _)
theorem report_js (n : NodD) (z : StoreD × Bool) (r : Int × Int) : JS z.1 (report n z r).1 := by
 unfold report
 split
 ·rfl
 ·split
  ·rfl
  ·simp only
   split
   ·exact eval_js _ _
   ·split
    ·rfl
    ·split
     ·rfl
     ·exact eval_js { z.1 with allocs := _ } _
theorem reports_js (n : NodD) : ∀ (l : List (Int × Int)) (z : StoreD × Bool), JS z.1 (l.foldl (report n) z).1
 | [], z => rfl
 | r :: l, z => (reports_js n l (report n z r)).trans (report_js n z r)
structure Vers (k : Nat) (s : StoreD) : Prop where
 jn : (s.jobs.map JobD.id).Nodup
 jv : ∀ j ∈ s.jobs, 1 ≤ j.ver ∧ j.ver ≤ 1099511627776
 nn : (s.nodes.map NodD.id).Nodup
 ne : ∀ n ∈ s.nodes, 0 ≤ n.epoch ∧ n.epoch ≤ (k : Int)
structure Rise (s t : StoreD) : Prop where
 jobs : ∀ j ∈ s.jobs, ∃ i, jobAt t j.id = some i ∧ j.ver ≤ i.ver ∧ i.ver ≤ j.ver + 1 ∧ i.ty = j.ty
 nodes : ∀ n ∈ s.nodes, ∃ m, nodeAt t n.id = some m ∧ n.epoch ≤ m.epoch ∧ m.epoch ≤ n.epoch + 1 ∧ n.boot ≤ m.boot ∧ (m.epoch = n.epoch → n.seq ≤ m.seq)
theorem find_self {α : Type} (key : α → Int) : ∀ {l : List α}, (l.map key).Nodup → ∀ {x : α}, x ∈ l → l.find? (fun y => key y == key x) = some x
 | [], _, _, h => by cases h
 | y :: r, hn, x, h => by
  rw [List.map_cons, List.nodup_cons] at hn
  rw [List.find?_cons]
  rcases List.mem_cons.1 h with rfl | h
  ·simp
  ·have : key y ≠ key x := fun e => hn.1 (List.mem_map.2 ⟨x, h, e.symm⟩)
   rw [show (key y == key x) = false by simp [this]]
   exact find_self key hn.2 h
theorem Rise.refl {k : Nat} {s : StoreD} (h : Vers k s) : Rise s s :=
 ⟨fun j hj => ⟨j, find_self JobD.id h.jn hj, Int.le_refl _, by omega, rfl⟩, fun n hn => ⟨n, find_self NodD.id h.nn hn, Int.le_refl _, by omega, Int.le_refl _, fun _ => Int.le_refl _⟩⟩
theorem Rise.same {k : Nat} {s t : StoreD} (h : Vers k s) (h1 : t.jobs = s.jobs) (h2 : t.nodes = s.nodes) : Rise s t ∧ Vers k t := by
 have h3 : ∀ x, jobAt t x = jobAt s x := fun x => by rw [jobAt, jobAt, h1]
 have h4 : ∀ x, nodeAt t x = nodeAt s x := fun x => by rw [nodeAt, nodeAt, h2]
 have r := Rise.refl h
 exact ⟨⟨fun j hj => by rw [h3]; exact r.jobs j hj, fun n hn => by rw [h4]; exact r.nodes n hn⟩, ⟨by rw [h1]; exact h.jn, by rw [h1]; exact h.jv, by rw [h2]; exact h.nn, by rw [h2]; exact h.ne⟩⟩
theorem Vers.more {k k' : Nat} {s : StoreD} (h : Vers k s) (hk : k ≤ k') : Vers k' s := ⟨h.jn, h.jv, h.nn, fun n hn => ⟨(h.ne n hn).1, by have := (h.ne n hn).2; omega⟩⟩
theorem Rise.putJ {k : Nat} {s t : StoreD} (h : Vers k s) (j : JobD) (h1 : t.jobs = putL JobD.id j s.jobs) (h2 : t.nodes = s.nodes) (hv : 1 ≤ j.ver ∧ j.ver ≤ 1099511627776) (hj : ∀ i ∈ s.jobs, i.id = j.id → i.ver ≤ j.ver ∧ j.ver ≤ i.ver + 1 ∧ j.ty = i.ty) : Rise s t ∧ Vers k t := by
 have h4 : ∀ x, nodeAt t x = nodeAt s x := fun x => by rw [nodeAt, nodeAt, h2]
 have r := Rise.refl h
 refine ⟨⟨fun i hi => ?_, fun n hn => by rw [h4]; exact r.nodes n hn⟩, ⟨by rw [h1]; exact putL_nodup h.jn, fun i hi => ?_, by rw [h2]; exact h.nn, by rw [h2]; exact h.ne⟩⟩
 ·rw [jobAt, h1]
  by_cases hid : i.id = j.id
  ·obtain ⟨a, b, c⟩ := hj i hi hid
   rw [hid]
   exact ⟨j, putL_find _, a, b, c⟩
  ·rw [putL_find_other hid]
   exact r.jobs i hi
 ·rw [h1] at hi
  rcases putL_mem hi with rfl | ⟨hi, _⟩
  ·exact hv
  ·exact h.jv i hi
theorem Rise.putN {k : Nat} {s t : StoreD} (h : Vers k s) (n : NodD) (h1 : t.nodes = putL NodD.id n s.nodes) (h2 : t.jobs = s.jobs) (hv : 0 ≤ n.epoch ∧ n.epoch ≤ (k : Int) + 1) (hn : ∀ i ∈ s.nodes, i.id = n.id → i.epoch ≤ n.epoch ∧ n.epoch ≤ i.epoch + 1 ∧ i.boot ≤ n.boot ∧ (n.epoch = i.epoch → i.seq ≤ n.seq)) : Rise s t ∧ Vers (k + 1) t := by
 have h4 : ∀ x, jobAt t x = jobAt s x := fun x => by rw [jobAt, jobAt, h2]
 have r := Rise.refl h
 refine ⟨⟨fun j hj => by rw [h4]; exact r.jobs j hj, fun i hi => ?_⟩, ⟨by rw [h2]; exact h.jn, by rw [h2]; exact h.jv, by rw [h1]; exact putL_nodup h.nn, fun i hi => ?_⟩⟩
 ·rw [nodeAt, h1]
  by_cases hid : i.id = n.id
  ·obtain ⟨a, b, c, d⟩ := hn i hi hid
   rw [hid]
   exact ⟨n, putL_find _, a, b, c, d⟩
  ·rw [putL_find_other hid]
   exact r.nodes i hi
 ·rw [h1] at hi
  rcases putL_mem hi with rfl | ⟨hi, _⟩
  ·exact ⟨hv.1, by have := hv.2; omega⟩
  ·have := h.ne i hi; exact ⟨this.1, by omega⟩
theorem Rise.turnN {k : Nat} {s t : StoreD} (h : Vers k s) (x : Int) (f : NodD → NodD) (h1 : t.nodes = turn1 (fun n => n.id == x) f s.nodes) (h2 : t.jobs = s.jobs) (hid : ∀ n, (f n).id = n.id)
  (hf : ∀ n ∈ s.nodes, n.id = x → n.epoch ≤ (f n).epoch ∧ (f n).epoch ≤ n.epoch + 1 ∧ n.boot ≤ (f n).boot ∧ ((f n).epoch = n.epoch → n.seq ≤ (f n).seq)) : Rise s t ∧ Vers (k + 1) t := by
 have h4 : ∀ x, jobAt t x = jobAt s x := fun x => by rw [jobAt, jobAt, h2]
 have r := Rise.refl h
 refine ⟨⟨fun j hj => by rw [h4]; exact r.jobs j hj, fun i hi => ?_⟩, ⟨by rw [h2]; exact h.jn, by rw [h2]; exact h.jv, by rw [h1, turn1_map _ _ _ hid]; exact h.nn, fun i hi => ?_⟩⟩
 ·rw [nodeAt, h1]
  by_cases hx : i.id = x
  ·obtain ⟨a, b, c, d⟩ := hf i hi hx
   refine ⟨f i, ?_, a, b, c, d⟩
   rw [hx, turn1_find _ _ (fun a => by rw [hid]), ← hx, find_self NodD.id h.nn hi]
   rfl
  ·rw [turn1_find_other _ _ _ (fun a ha => ?_)]
   ·exact r.nodes i hi
   ·have ha' : a.id = x := by simpa using ha
    exact ⟨by rw [hid]; simp [ha', Ne.symm hx], by simp [ha', Ne.symm hx]⟩
 ·rw [h1] at hi
  have : ∀ l : List NodD, i ∈ turn1 (fun n => n.id == x) f l → i ∈ l ∨ ∃ n ∈ l, n.id = x ∧ i = f n := fun l => by
   induction l with
   | nil => intro h; cases h
   | cons y r ih =>
    intro hh
    unfold turn1 at hh
    split at hh
    ·rename_i hy
     rcases List.mem_cons.1 hh with hh | hh
     ·exact .inr ⟨y, List.mem_cons_self .., by simpa using hy, hh⟩
     ·exact .inl (List.mem_cons_of_mem _ hh)
    ·rcases List.mem_cons.1 hh with hh | hh
     ·exact .inl (hh ▸ List.mem_cons_self ..)
     ·rcases ih hh with hh | ⟨n, a, b⟩
      ·exact .inl (List.mem_cons_of_mem _ hh)
      ·exact .inr ⟨n, List.mem_cons_of_mem _ a, b⟩
  rcases this _ hi with hi | ⟨n, hn, hx, rfl⟩
  ·have := h.ne i hi; exact ⟨this.1, by omega⟩
  ·have := h.ne n hn
   obtain ⟨a, b, _, _⟩ := hf n hn hx
   exact ⟨by omega, by omega⟩
end Fsm
end
section
open Go.RowKit
def JobD.ok (x : JobD) : Prop := (In64 x.id ∧ In64 x.ty ∧ In64 x.prio ∧ In64 x.par ∧ In64 x.ver) ∧ (∀ g ∈ x.groups, g.ok) ∧ x.groups.length ≤ 1048576
def SeenD.ok (x : SeenD) : Prop := (In64 x.client ∧ In64 x.req ∧ In64 x.answer.code ∧ In64 x.answer.value) ∧ x.answer.allocs = []
structure CmdD.ok (c : CmdD) : Prop where
 client : In64 c.client
 req : In64 c.req
 job : c.job.ok
 node : c.node.ok
 rep : ∀ r ∈ c.reports, In64 r.1 ∧ In64 r.2
 pi : In64 c.plan.index
 places : ∀ a ∈ c.plan.places, a.ok
namespace Fsm
theorem in64_wrap (x : Int) : In64 (wrap64 x) := by unfold In64 wrap64; omega
theorem putL_all {α : Type} {P : α → Prop} {key : α → Int} {x : α} : ∀ {l : List α}, (∀ y ∈ l, P y) → P x → ∀ y ∈ putL key x l, P y
 | [], _, hx, y, hy => by rw [putL, List.mem_singleton] at hy; subst hy; exact hx
 | z :: r, h, hx, y, hy => by
  unfold putL at hy
  split at hy
  ·rcases List.mem_cons.1 hy with rfl | hy
   ·exact hx
   ·exact h y (List.mem_filter.1 hy).1
  ·rcases List.mem_cons.1 hy with rfl | hy
   ·exact h y (List.mem_cons_self ..)
   ·exact putL_all (fun u hu => h u (List.mem_cons_of_mem _ hu)) hx y hy
theorem turn1_all {α : Type} {P : α → Prop} {p : α → Bool} {f : α → α} (hf : ∀ y, P y → P (f y)) : ∀ {l : List α}, (∀ y ∈ l, P y) → ∀ y ∈ turn1 p f l, P y
 | [], _, y, hy => by cases hy
 | z :: r, h, y, hy => by
  unfold turn1 at hy
  split at hy
  ·rcases List.mem_cons.1 hy with rfl | hy
   ·exact hf z (h z (List.mem_cons_self ..))
   ·exact h y (List.mem_cons_of_mem _ hy)
  ·rcases List.mem_cons.1 hy with rfl | hy
   ·exact h y (List.mem_cons_self ..)
   ·exact turn1_all hf (fun u hu => h u (List.mem_cons_of_mem _ hu)) y hy
theorem putL_len {α : Type} {key : α → Int} {x : α} : ∀ l : List α, (putL key x l).length ≤ l.length + 1
 | [] => by simp [putL]
 | z :: r => by
  unfold putL
  split
  ·have := List.length_filter_le (fun y => !(key y == key x)) (z :: r)
   simp only [List.length_cons] at this ⊢
   omega
  ·have := putL_len (key := key) (x := x) r
   simp only [List.length_cons]
   omega
theorem turn1_len {α : Type} {p : α → Bool} {f : α → α} : ∀ l : List α, (turn1 p f l).length = l.length
 | [] => rfl
 | z :: r => by
  unfold turn1
  split
  ·rfl
  ·simp only [List.length_cons, turn1_len r]
structure Ok64 (s : StoreD) : Prop where
 ix : In64 s.index
 nx : In64 s.next
 j : ∀ x ∈ s.jobs, x.ok
 t : ∀ x ∈ s.stable, x.ok
 n : ∀ x ∈ s.nodes, x.ok
 a : ∀ x ∈ s.allocs, x.ok
 e : ∀ x ∈ s.evals, x.ok
 d : ∀ x ∈ s.deploys, x.ok
 x : ∀ x ∈ s.seen, x.ok
theorem Ok64.wJ {s : StoreD} (h : Ok64 s) {l : List JobD} (hl : ∀ x ∈ l, x.ok) : Ok64 { s with jobs := l } := ⟨h.ix, h.nx, hl, h.t, h.n, h.a, h.e, h.d, h.x⟩
theorem Ok64.wN {s : StoreD} (h : Ok64 s) {l : List NodD} (hl : ∀ x ∈ l, x.ok) : Ok64 { s with nodes := l } := ⟨h.ix, h.nx, h.j, h.t, hl, h.a, h.e, h.d, h.x⟩
theorem Ok64.wA {s : StoreD} (h : Ok64 s) {l : List AllocD} (hl : ∀ x ∈ l, x.ok) : Ok64 { s with allocs := l } := ⟨h.ix, h.nx, h.j, h.t, h.n, hl, h.e, h.d, h.x⟩
theorem Ok64.wD {s : StoreD} (h : Ok64 s) {l : List DepD} (hl : ∀ x ∈ l, x.ok) : Ok64 { s with deploys := l } := ⟨h.ix, h.nx, h.j, h.t, h.n, h.a, h.e, hl, h.x⟩
theorem Ok64.wE {s : StoreD} (h : Ok64 s) {l : List EvalD} (hl : ∀ x ∈ l, x.ok) : Ok64 { s with evals := l } := ⟨h.ix, h.nx, h.j, h.t, h.n, h.a, hl, h.d, h.x⟩
theorem Ok64.wX {s : StoreD} (h : Ok64 s) {l : List SeenD} (hl : ∀ x ∈ l, x.ok) : Ok64 { s with seen := l } := ⟨h.ix, h.nx, h.j, h.t, h.n, h.a, h.e, h.d, hl⟩
theorem Ok64.jobAt {s : StoreD} (h : Ok64 s) {i : Int} {j : JobD} (e : jobAt s i = some j) : j.ok := h.j j (List.mem_of_find?_eq_some e)
theorem eval_64 {s : StoreD} (h : Ok64 s) (j : Int) : Ok64 (eval s j) := by
 unfold eval
 split
 ·exact h
 ·rename_i g hg
  obtain ⟨⟨h1, h2, h3, h4, h5⟩, h6⟩ := h.jobAt hg
  have hj : In64 j := by
   have := List.find?_some hg
   have e : g.id = j := by simpa using this
   exact e ▸ h1
  exact ⟨h.ix, h.nx, h.j, h.t, h.n, h.a, putL_all h.e ⟨hj, h3, by show In64 1; unfold In64; omega, h.ix⟩, h.d, h.x⟩
theorem came_64 {s : StoreD} (h : Ok64 s) : Ok64 (came s) := by
 refine ⟨h.ix, h.nx, h.j, h.t, h.n, h.a, fun x hx => ?_, h.d, h.x⟩
 obtain ⟨y, hy, rfl⟩ := List.mem_map.1 hx
 obtain ⟨h1, h2, h3, h4⟩ := h.e y hy
 unfold cameE
 split
 ·exact ⟨h1, h2, by show In64 1; unfold In64; omega, h.ix⟩
 ·exact ⟨h1, h2, h3, h4⟩
theorem fold_64 {α : Type} {f : StoreD → α → StoreD} (hf : ∀ s a, Ok64 s → Ok64 (f s a)) : ∀ (l : List α) {s : StoreD}, Ok64 s → Ok64 (l.foldl f s)
 | [], _, h => h
 | a :: r, s, h => fold_64 hf r (hf s a h)
theorem system_64 {s : StoreD} (h : Ok64 s) : Ok64 (system s) := fold_64 (fun t j ht => by split; exact eval_64 ht _; exact ht) _ h
theorem look_64 {s : StoreD} (h : Ok64 s) (i : Nat) : Ok64 (lookStep s i) := by
 unfold lookStep
 split
 ·exact h
 ·rename_i d hd
  split
  ·exact h
  ·rename_i j hj
   split
   ·obtain ⟨h1, h2, h3, h4⟩ := h.d d (List.mem_of_getElem? hd)
    refine ⟨h.ix, h.nx, h.j, putL_all h.t (h.jobAt hj), h.n, h.a, h.e, fun x hx => ?_, h.x⟩
    rcases List.mem_or_eq_of_mem_set hx with hx | rfl
    ·exact h.d x hx
    ·exact ⟨h1, h2, by show In64 2; unfold In64; omega, h4⟩
   ·exact h
theorem looked_64 {s : StoreD} (h : Ok64 s) : Ok64 (looked s) := fold_64 (fun t i ht => look_64 ht i) _ h
theorem begins_64 {s : StoreD} (h : Ok64 s) {j : JobD} (hj : j.ok) : Ok64 (begins s j) := by
 unfold begins
 simp only
 refine eval_64 ?_ _
 have h1 : Ok64 ({ s with jobs := putL JobD.id j s.jobs } : StoreD) := ⟨h.ix, h.nx, putL_all h.j hj, h.t, h.n, h.a, h.e, h.d, h.x⟩
 split
 ·refine looked_64 ⟨h1.ix, h1.nx, h1.j, h1.t, h1.n, h1.a, h1.e, putL_all h1.d ⟨hj.1.1, hj.1.2.2.2.2, by show In64 1; unfold In64; omega, h.ix⟩, h1.x⟩
 ·exact h1
theorem lost_64 {s : StoreD} (h : Ok64 s) (n : Int) : Ok64 (lost s n) := fold_64 (fun t i ht => by
 unfold lostStep
 split
 ·exact ht
 ·rename_i a ha
  split
  ·obtain ⟨h1, h2, h3, h4, h5, h6, h7, h8, h9, h10⟩ := ht.a a (List.mem_of_getElem? ha)
   refine eval_64 (ht.wA (fun x hx => ?_)) _
   rcases List.mem_or_eq_of_mem_set hx with hx | rfl
   ·exact ht.a x hx
   ·exact ⟨h1, h2, h3, h4, h5, h6, h7, h8, h9, by show In64 6; unfold In64; omega⟩
  ·exact ht) _ h
theorem submit_64 {s : StoreD} (h : Ok64 s) {c : CmdD} (hc : c.ok) : Ok64 (submit s c).1 := by
 obtain ⟨⟨h1, h2, h3, h4, h5⟩, h6⟩ := hc.job
 unfold submit
 split
 ·exact h
 ·split
  ·split
   ·exact h
   ·exact begins_64 h ⟨⟨h1, h2, h3, h4, in64_wrap _⟩, h6⟩
  ·split
   ·exact h
   ·exact begins_64 h ⟨⟨h1, h2, h3, h4, by show In64 1; unfold In64; omega⟩, h6⟩
theorem cancel_64 {s : StoreD} (h : Ok64 s) (c : CmdD) : Ok64 (cancel s c).1 := by
 unfold cancel
 split
 ·exact h
 ·refine eval_64 ((h.wJ (turn1_all (f := fun j => { j with stopped := true }) (fun j hj => hj) h.j)).wD (turn1_all (fun d hd => ?_) h.d)) _
  obtain ⟨h1, h2, h3, h4⟩ := hd
  split
  ·exact ⟨h1, h2, by show In64 3; unfold In64; omega, h4⟩
  ·exact ⟨h1, h2, h3, h4⟩
theorem joins_64 {s : StoreD} (h : Ok64 s) {n : NodD} (hn : n.ok) : Ok64 (joins s n) := came_64 (system_64 (lost_64 (h.wN (putL_all h.n hn)) _))
theorem register_64 {s : StoreD} (h : Ok64 s) {c : CmdD} (hc : c.ok) : Ok64 (register s c).1 := by
 obtain ⟨h1, h2, h3, h4, h5, h6⟩ := hc.node
 have z0 : In64 0 := by unfold In64; omega
 have z1 : In64 1 := by unfold In64; omega
 unfold register
 split
 ·exact h
 ·split
  ·exact joins_64 h ⟨h1, h2, h3, h4, z1, z0⟩
  ·split
   ·exact h
   ·split
    ·split <;> exact h
    ·exact joins_64 h ⟨h1, h2, h3, h4, in64_wrap _, z0⟩
theorem report_64 (n : NodD) {z : StoreD × Bool} (h : Ok64 z.1) {r : Int × Int} (hr : In64 r.2) : Ok64 (report n z r).1 := by
 unfold report
 split
 ·exact h
 ·split
  ·exact h
  ·have hO : Ok64 ({ z.1 with allocs := turn1 (fun a => a.id == r.1) (fun a => { a with state := r.2 }) z.1.allocs } : StoreD) := by
    refine ⟨h.ix, h.nx, h.j, h.t, h.n, turn1_all (fun a ha => ?_) h.a, h.e, h.d, h.x⟩
    obtain ⟨h1, h2, h3, h4, h5, h6, h7, h8, h9, h10⟩ := ha
    exact ⟨h1, h2, h3, h4, h5, h6, h7, h8, h9, hr⟩
   simp only
   split
   ·exact eval_64 hO _
   ·split
    ·exact hO
    ·split
     ·exact hO
     ·refine (eval_64 hO _).wD (turn1_all (fun d hd => ?_) (eval_64 hO _).d)
      obtain ⟨h1, h2, h3, h4⟩ := hd
      split
      ·exact ⟨h1, h2, h3, (eval_64 hO _).ix⟩
      ·exact ⟨h1, h2, h3, h4⟩
theorem reports_64 (n : NodD) : ∀ (l : List (Int × Int)) {z : StoreD × Bool}, Ok64 z.1 → (∀ r ∈ l, In64 r.1 ∧ In64 r.2) → Ok64 (l.foldl (report n) z).1
 | [], _, h, _ => h
 | r :: l, z, h, hl => reports_64 n l (report_64 n h (hl r (List.mem_cons_self ..)).2) (fun q hq => hl q (List.mem_cons_of_mem _ hq))
theorem beat_64 {s : StoreD} (h : Ok64 s) {c : CmdD} (hc : c.ok) : Ok64 (beat s c).1 := by
 unfold beat
 split
 ·exact h
 ·split
  ·exact h
  ·split
   ·exact h
   ·split
    ·exact h
    ·simp only
     have h1 : Ok64 (looked (c.reports.foldl (report c.node) (({ s with nodes := turn1 (fun n => n.id == c.node.id) (fun n => { n with seq := c.node.seq }) s.nodes } : StoreD), false)).1) := by
      refine looked_64 (reports_64 _ _ (h.wN (turn1_all (fun n hn => ?_) h.n)) hc.rep)
      obtain ⟨h1, h2, h3, h4, h5, h6⟩ := hn
      exact ⟨h1, h2, h3, h4, h5, hc.node.2.2.2.2.2⟩
     split
     ·exact came_64 h1
     ·exact h1
theorem down_64 {s : StoreD} (h : Ok64 s) (c : CmdD) : Ok64 (down s c).1 := by
 unfold down
 split
 ·exact h
 ·split
  ·exact h
  ·split
   ·exact h
   ·refine system_64 (lost_64 (h.wN (turn1_all (fun n hn => ?_) h.n)) _)
    obtain ⟨h1, h2, h3, h4, h5, h6⟩ := hn
    exact ⟨h1, h2, h3, h4, in64_wrap _, h6⟩
theorem drain_64 {s : StoreD} (h : Ok64 s) (c : CmdD) : Ok64 (drain s c).1 := by
 unfold drain
 split
 ·exact h
 ·simp only
  have h1 : Ok64 (system (s.allocs.foldl (fun t a => if a.node == c.node.id && !overB a then eval t a.job else t) { s with nodes := turn1 (fun n => n.id == c.node.id) (fun n => { n with drain := c.node.drain }) s.nodes })) :=
   system_64 (fold_64 (fun t a ht => by split; exact eval_64 ht _; exact ht) _ (h.wN (turn1_all (f := fun n => { n with drain := c.node.drain }) (fun n hn => hn) h.n)))
  split
  ·exact h1
  ·exact came_64 h1
theorem placeStep_64 {j : JobD} (hj : j.ok) {n : NodD} (hn : n.ok) {t u : StoreD} (h : Ok64 t) {x : AllocD} (hx : x.ok) (e : placeStep j n (some t) x = some u) : Ok64 u := by
 rw [show placeStep j n (some t) x = if mayP t j n x then some (placed t j n x) else none from rfl] at e
 split at e
 ·cases e
  refine ⟨h.ix, in64_wrap _, h.j, h.t, h.n, fun y hy => ?_, h.e, h.d, h.x⟩
  rcases List.mem_append.1 hy with hy | hy
  ·exact h.a y hy
  ·rw [List.mem_singleton] at hy; subst hy
   obtain ⟨h1, h2, h3, h4, h5, h6, h7, h8, h9, h10⟩ := hx
   exact ⟨h.nx, hj.1.1, hj.1.2.2.2.2, h4, h5, hn.1, hn.2.2.2.2.1, h8, h9, by show In64 1; unfold In64; omega⟩
 ·cases e
theorem placeAll_64 {j : JobD} (hj : j.ok) {n : NodD} (hn : n.ok) : ∀ (l : List AllocD), (∀ x ∈ l, x.ok) → ∀ {t u : StoreD}, Ok64 t → placeAll j n l t = some u → Ok64 u
 | [], _, t, u, h, e => by cases e; exact h
 | x :: r, hl, t, u, h, e => by
  unfold placeAll at e
  rw [List.foldl_cons] at e
  cases hq : placeStep j n (some t) x with
  | none =>
   rw [hq] at e
   have : ∀ r : List AllocD, r.foldl (placeStep j n) none = none := fun r => by
    induction r with
    | nil => rfl
    | cons y r ih => exact ih
   rw [this] at e; cases e
  | some v =>
   rw [hq] at e
   exact placeAll_64 hj hn r (fun y hy => hl y (List.mem_cons_of_mem _ hy)) (placeStep_64 hj hn h (hl x (List.mem_cons_self ..)) hq) e
theorem places_64 {s : StoreD} (h : Ok64 s) {j : JobD} (hj : j.ok) (node : Int) {l : List AllocD} (hl : ∀ x ∈ l, x.ok) : Ok64 (places s j node l).1 := by
 unfold places
 split
 ·exact h
 ·rename_i n hn
  split
  ·exact h
  ·split
   ·exact h
   ·rename_i t ht
    have h1 := placeAll_64 hj (h.n n (List.mem_of_find?_eq_some hn)) _ (fun x hx => hl x (List.mem_filter.1 hx).1) h ht
    split
    ·exact h
    ·rename_i m hm
     exact ⟨h1.ix, h1.nx, h1.j, h1.t, h1.n, fun a ha => h1.a a ((trim_sub _ _ _ _ hm).subset ha), h1.e, h1.d, h1.x⟩
theorem plan_64 {s : StoreD} (h : Ok64 s) {c : CmdD} (hc : c.ok) : Ok64 (plan s c).1 := by
 unfold plan
 simp only
 split
 ·rename_i j e hj he
  have hs : ∀ (ids : List Int) (l : List AllocD), (∀ x ∈ l, x.ok) → ∀ x ∈ stops c.plan.job l ids, x.ok := fun ids => by
   induction ids with
   | nil => exact fun l hl => hl
   | cons i r ih => exact fun l hl => ih _ (turn1_all (fun a ha => by split <;> exact ha) hl)
  have h1 : Ok64 ({ s with allocs := stops c.plan.job s.allocs c.plan.stops } : StoreD) := ⟨h.ix, h.nx, h.j, h.t, h.n, hs _ _ h.a, h.e, h.d, h.x⟩
  have h2 : ∀ (l : List Int) (z : StoreD × Bool), Ok64 z.1 → Ok64 (l.foldl (fun z n => ((places z.1 j n c.plan.places).1, z.2 && (places z.1 j n c.plan.places).2)) z).1 := fun l => by
   induction l with
   | nil => exact fun z hz => hz
   | cons n r ih => exact fun z hz => ih _ (places_64 hz (h.jobAt hj) n hc.places)
  have h3 := h2 (nodesUp c.plan.places) ({ s with allocs := stops c.plan.job s.allocs c.plan.stops }, true) h1
  split
  ·exact h
  ·split
   ·refine ⟨h3.ix, h3.nx, h3.j, h3.t, h3.n, h3.a, turn1_all (fun e he => ?_) h3.e, h3.d, h3.x⟩
    exact ⟨he.1, he.2.1, he.2.2.1, h.ix⟩
   ·refine ⟨h3.ix, h3.nx, h3.j, h3.t, h3.n, h3.a, turn1_all (fun e he => ?_) h3.e, h3.d, h3.x⟩
    exact ⟨he.1, he.2.1, (by show In64 (if _ then _ else _); split <;> (unfold In64; omega)), he.2.2.2⟩
 ·exact h
theorem revert_64 {s : StoreD} (h : Ok64 s) (c : CmdD) : Ok64 (revert s c).1 := by
 unfold revert
 split
 ·exact h
 ·split
  ·exact h
  ·split
   ·exact h
   ·simp only
    have dd : ∀ y : DepD, y.ok → ({ y with state := 3 } : DepD).ok := fun y hy => ⟨hy.1, hy.2.1, by show In64 3; unfold In64; omega, hy.2.2.2⟩
    split
    ·exact eval_64 (h.wD (turn1_all dd h.d)) _
    ·rename_i x hx
     split
     ·exact eval_64 (h.wD (turn1_all dd h.d)) _
     ·split
      ·exact h
      ·obtain ⟨⟨h1, h2, h3, h4, h5⟩, h6⟩ := h.t x (List.mem_of_find?_eq_some hx)
       exact begins_64 (h.wD (turn1_all dd h.d)) ⟨⟨h1, h2, h3, h4, in64_wrap _⟩, h6⟩
theorem command_64 {s : StoreD} (h : Ok64 s) {c : CmdD} (hc : c.ok) : Ok64 (command s c).1 := by
 unfold command
 repeat' split
 ·exact h
 ·exact submit_64 h hc
 ·exact cancel_64 h c
 ·exact register_64 h hc
 ·exact beat_64 h hc
 ·exact down_64 h c
 ·exact drain_64 h c
 ·exact plan_64 h hc
 ·exact revert_64 h c
 ·exact h
theorem answer_64 {s : StoreD} (h : Ok64 s) {c : CmdD} (hc : c.ok) (ho : c.op = 3 ∨ c.op = 4 ∨ c.op = 8) : In64 (command s c).2.code ∧ In64 (command s c).2.value ∧ (command s c).2.allocs = [] := by
 have z : ∀ i : Int, 0 ≤ i → i ≤ 100 → In64 i := fun i _ _ => by unfold In64; omega
 rcases ho with ho | ho | ho
 ·unfold command
  rw [if_neg (by omega), if_pos ho]
  unfold submit
  split
  ·exact ⟨z 30 (by omega) (by omega), z 0 (by omega) (by omega), rfl⟩
  ·split
   ·split
    ·exact ⟨z 30 (by omega) (by omega), z 0 (by omega) (by omega), rfl⟩
    ·exact ⟨z 0 (by omega) (by omega), in64_wrap _, rfl⟩
   ·split
    ·exact ⟨z 2 (by omega) (by omega), z 0 (by omega) (by omega), rfl⟩
    ·exact ⟨z 0 (by omega) (by omega), z 1 (by omega) (by omega), rfl⟩
 ·unfold command
  rw [if_neg (by omega), if_neg (by omega), if_pos ho]
  unfold cancel
  split
  ·exact ⟨z 36 (by omega) (by omega), z 0 (by omega) (by omega), rfl⟩
  ·exact ⟨z 0 (by omega) (by omega), z 0 (by omega) (by omega), rfl⟩
 ·unfold command
  rw [if_neg (by omega), if_neg (by omega), if_neg (by omega), if_neg (by omega), if_neg (by omega), if_neg (by omega), if_pos ho]
  unfold drain
  split
  ·exact ⟨z 31 (by omega) (by omega), z 0 (by omega) (by omega), rfl⟩
  ·exact ⟨z 0 (by omega) (by omega), z 0 (by omega) (by omega), rfl⟩
theorem apply_64 {s : StoreD} (h : Ok64 s) {ix : Int} (hi : In64 ix) {c : CmdD} (hc : c.ok) : Ok64 (apply s ix c).1 := by
 have h0 : Ok64 ({ s with index := ix } : StoreD) := ⟨hi, h.nx, h.j, h.t, h.n, h.a, h.e, h.d, h.x⟩
 unfold apply
 simp only
 split
 ·exact command_64 h0 hc
 ·rename_i hop
  split
  ·exact h0
  ·split
   ·split <;> exact h0
   ·have h1 := command_64 h0 hc
    refine ⟨h1.ix, h1.nx, h1.j, h1.t, h1.n, h1.a, h1.e, h1.d, putL_all h1.x ?_⟩
    have ho : c.op = 3 ∨ c.op = 4 ∨ c.op = 8 := by
     simp only [Bool.or_eq_true, Bool.not_eq_true', not_or, Bool.or_eq_false_iff, Bool.not_eq_false', Bool.not_eq_true, beq_iff_eq, beq_eq_false_iff_ne, Bool.not_eq_false] at hop
     omega
    obtain ⟨k1, k2, k3⟩ := answer_64 h0 hc ho
    exact ⟨⟨hc.client, hc.req, k1, k2⟩, k3⟩
end Fsm
end
end Go.Proofs.YtlpfcmnnmdhaoaaGreat
