/- Parts of the proof: FsmI FsmJ FsmK FsmN FsmL FsmE -/
import Derived.Test.YtccekmeifanipaaGreatQ06
namespace Go.Proofs.YtccekmeifanipaaGreat
set_option linter.unusedVariables false
set_option linter.unusedSimpArgs false
set_option linter.unusedSectionVars false
section
open Go.RowKit
namespace Fsm
section
variable {α : Type} {key : α → Int} {x : α}
theorem putL_mem {l : List α} {y : α} (h : y ∈ Aj key x l) : y = x ∨ (y ∈ l ∧ key y ≠ key x) := by
 induction l with
 | nil => simp [Aj] at h; exact .inl h
 | cons z r ih =>
  unfold Aj at h
  split at h
  ·rcases List.mem_cons.1 h with h | h
   ·exact .inl h
   obtain ⟨h1, h2⟩ := List.mem_filter.1 h
   exact .inr ⟨h1, by simpa using h2⟩
  rename_i hk
  rcases List.mem_cons.1 h with h | h
  ·subst h; exact .inr ⟨List.mem_cons_self .., by omega⟩
  rcases ih h with h | ⟨h1, h2⟩
  ·exact .inl h
  exact .inr ⟨List.mem_cons_of_mem _ h1, h2⟩
theorem FE {l : List α} (h : (l.map key).Nodup) : ((Aj key x l).map key).Nodup := by
 induction l with
 | nil => simp [Aj]
 | cons z r ih =>
  unfold Aj
  split
  ·rw [List.map_cons, List.nodup_cons]
   refine ⟨fun hm => ?_, ?_⟩
   ·obtain ⟨y, hy, e⟩ := List.mem_map.1 hm
    have := (List.mem_filter.1 hy).2
    simp [e] at this
   exact h.sublist (List.Sublist.map _ List.filter_sublist)
  rename_i hk
  rw [List.map_cons, List.nodup_cons] at h ⊢
  refine ⟨fun hm => ?_, ih h.2⟩
  obtain ⟨y, hy, e⟩ := List.mem_map.1 hm
  rcases putL_mem hy with rfl | ⟨h1, _⟩
  ·omega
  exact h.1 (List.mem_map.2 ⟨y, h1, e⟩)
theorem Gm (l : List α) : (Aj key x l).find? (fun y => key y == key x) = some x := by
 induction l with
 | nil => simp [Aj]
 | cons z r ih =>
  unfold Aj
  split
  ·simp
  rename_i hk
  rw [List.find?_cons, show (key z == key x) = false by simp; omega]
  exact ih
theorem CB {i : Int} (hi : i ≠ key x) (l : List α) : (Aj key x l).find? (fun y => key y == i) = l.find? (fun y => key y == i) := by
 induction l with
 | nil => simp [Aj, Ne.symm hi]
 | cons z r ih =>
  unfold Aj
  split
  ·rw [List.find?_cons, show (key x == i) = false by simp; exact Ne.symm hi]
   simp only
   generalize z :: r = m
   induction m with
   | nil => rfl
   | cons y t ih =>
    rw [List.filter_cons]
    split
    ·rw [List.find?_cons, List.find?_cons, ih]
    rename_i hy
    rw [List.find?_cons, ih]
    have : key y = key x := by simpa using hy
    rw [show (key y == i) = false by simp [this]; exact Ne.symm hi]
  rw [List.find?_cons, List.find?_cons, ih]
theorem CJ {β : Type} (p : α → Bool) (f : α → α) (g : α → β) (h : ∀ a, g (f a) = g a) (l : List α) : (turn1 p f l).map g = l.map g := by
 induction l with
 | nil => rfl
 | cons y r ih =>
  unfold turn1
  split
  ·simp [h]
  simp [ih]
theorem IE (p : α → Bool) (f : α → α) (h : ∀ a, p (f a) = p a) (l : List α) : (turn1 p f l).find? p = (l.find? p).map f := by
 induction l with
 | nil => rfl
 | cons y r ih =>
  unfold turn1
  split
  ·rename_i hp
   simp [List.find?_cons, h, hp]
  rename_i hp
  have hp' : p y = false := by simpa using hp
  simp [List.find?_cons, hp', ih]
theorem Dc (p q : α → Bool) (f : α → α) (h : ∀ a, p a = true → q (f a) = false ∧ q a = false) (l : List α) : (turn1 p f l).find? q = l.find? q := by
 induction l with
 | nil => rfl
 | cons y r ih =>
  unfold turn1
  split
  ·rename_i hp
   obtain ⟨h1, h2⟩ := h y hp
   simp [List.find?_cons, h1, h2]
  simp [List.find?_cons, ih]
end
def core (a : Ac) : Ac := { a with stop := false, state := 1 }
structure On (a b : Ac) : Prop where
 core : core b = core a
 rise : a.state ≤ b.state
 past : Bc a = true → b.state = a.state
 stop : a.stop = true → b.stop = true
theorem On.over {a b : Ac} (h : On a b) (ha : Bc a = true) : Bc b = true := by
 have := h.past ha
 simp only [Bc, decide_eq_true_eq] at ha ⊢
 omega
theorem On.refl (a : Ac) : On a a := ⟨rfl, Int.le_refl _, fun _ => rfl, id⟩
theorem On.trans {a b c : Ac} (h : On a b) (k : On b c) : On a c := ⟨k.core.trans h.core, Int.le_trans h.rise k.rise, fun e => (k.past (h.over e)).trans (h.past e), fun e => k.stop (h.stop e)⟩
def Ons : List Ac → List Ac → Prop
 | [], [] => True
 | a :: l, b :: m => On a b ∧ Ons l m
 | _, _ => False
theorem Ons.refl : ∀ l : List Ac, Ons l l
 | [] => trivial
 | a :: r => ⟨On.refl a, Ons.refl r⟩
theorem Ons.trans : ∀ {l m n : List Ac}, Ons l m → Ons m n → Ons l n
 | [], [], [], _, _ => trivial
 | _ :: _, _ :: _, _ :: _, h, k => ⟨h.1.trans k.1, Ons.trans h.2 k.2⟩
 | [], [], _ :: _, _, k => k.elim
 | [], _ :: _, _, h, _ => h.elim
 | _ :: _, [], _, h, _ => h.elim
 | _ :: _, _ :: _, [], _, k => k.elim
theorem Ons.turn1 (p : Ac → Bool) (f : Ac → Ac) (h : ∀ a, p a = true → On a (f a)) : ∀ l, Ons l (Fsm.turn1 p f l)
 | [] => trivial
 | a :: r => by
  unfold Fsm.turn1
  split
  ·rename_i hp; exact ⟨h a hp, Ons.refl r⟩
  exact ⟨On.refl a, Ons.turn1 p f h r⟩
theorem Ons.set : ∀ (l : List Ac) (i : Nat) (b : Ac), (∀ a, l[i]? = some a → On a b) → Ons l (l.set i b)
 | [], _, _, _ => trivial
 | a :: r, 0, b, h => ⟨h a rfl, Ons.refl r⟩
 | a :: r, i + 1, b, h => ⟨On.refl a, Ons.set r i b (fun c hc => h c (by simpa using hc))⟩
def BH (l : List Ac) : List Ac := (l.filter (fun a => !Bc a)).map core
theorem Ons.live : ∀ {l m : List Ac}, Ons l m → (BH m).Sublist (BH l)
 | [], [], _ => List.Sublist.refl _
 | [], _ :: _, h => h.elim
 | _ :: _, [], h => h.elim
 | a :: l, b :: m, h => by
  have ih := Ons.live h.2
  unfold BH at ih ⊢
  rw [List.filter_cons, List.filter_cons]
  cases ha : Bc a with
  | true =>
   rw [h.1.over ha]
   simpa using ih
  | false =>
   cases hb : Bc b with
   | true => simpa using ih.cons (core a)
   | false => simp only [Bool.not_false, if_true, List.map_cons, h.1.core]; exact ih.cons_cons _
theorem Ons.mem : ∀ {l m : List Ac}, Ons l m → ∀ {b : Ac}, b ∈ m → ∃ a ∈ l, On a b
 | [], [], _, _, hb => by cases hb
 | [], _ :: _, h, _, _ => h.elim
 | _ :: _, [], h, _, _ => h.elim
 | a :: l, c :: m, h, b, hb => by
  rcases List.mem_cons.1 hb with rfl | hb
  ·exact ⟨_, List.mem_cons_self .., h.1⟩
  obtain ⟨a', ha, k⟩ := Ons.mem h.2 hb
  exact ⟨a', List.mem_cons_of_mem _ ha, k⟩
theorem Dt {a b : Ac} (h : core b = core a) : b.node = a.node ∧ b.epoch = a.epoch ∧ b.job = a.job ∧ b.group = a.group ∧ b.index = a.index ∧ b.ask = a.ask ∧ b.id = a.id ∧ b.ver = a.ver := by
 simp only [core, Ac.mk.injEq] at h
 obtain ⟨h1, h2, h3, h4, h5, h6, h7, h8, _, _⟩ := h
 exact ⟨h6, h7, h2, h4, h5, h8, h1, h3⟩
theorem Kc (l m : List Ac) : BH (l ++ m) = BH l ++ BH m := by simp [BH]
theorem Jt {l : List Ac} {c : Ac} (h : c ∈ BH l) : ∃ a ∈ l, Bc a = false ∧ c = core a := by
 obtain ⟨a, ha, e⟩ := List.mem_map.1 h
 obtain ⟨h1, h2⟩ := List.mem_filter.1 ha
 exact ⟨a, h1, by simpa using h2, e.symm⟩
def leR (a b : BJ) : Prop := a.cpu ≤ b.cpu ∧ a.mem ≤ b.mem
def useC (node : Int) (o : Option BJ) (c : Ac) : Option BJ := match o with | none => none | some r => if c.node == node then addF r c.ask else some r
theorem Ec (node : Int) : ∀ l : List Ac, l.foldl (useC node) none = none
 | [] => rfl
 | a :: r => Ec node r
theorem KF (node : Int) : ∀ (l : List Ac) (o : Option BJ), l.foldl (BQ node) o = (BH l).foldl (useC node) o
 | [], o => rfl
 | a :: r, o => by
  rw [List.foldl_cons, KF node r]
  unfold BH
  rw [List.filter_cons]
  cases ho : Bc a with
  | true =>
   have : BQ node o a = o := by cases o with
    | none => rfl
    | some r => simp [BQ, ho]
   simp [this]
  | false =>
   have : BQ node o a = useC node o (core a) := by cases o with
    | none => rfl
    | some r => simp [BQ, useC, ho, core]
   simp [this]
theorem JW {a b s : BJ} (h : addF a b = some s) : s = ⟨a.cpu + b.cpu, a.mem + b.mem⟩ ∧ 0 ≤ b.cpu ∧ 0 ≤ b.mem ∧ 0 ≤ a.cpu ∧ 0 ≤ a.mem ∧ a.cpu + b.cpu ≤ 1152921504606846976 ∧ a.mem + b.mem ≤ 1152921504606846976 ∧ b.cpu ≤ 1152921504606846976 ∧ b.mem ≤ 1152921504606846976 := by
 unfold addF at h
 split at h
 ·rename_i hc
  simp only [Option.some.injEq] at h
  simp only [Dh, inB, Bool.and_eq_true, decide_eq_true_eq] at hc
  have hm : (Go.Proofs.YtccekmeifanipaaGreat.most : Int) = 1152921504606846976 := rfl
  exact ⟨h.symm, by omega, by omega, by omega, by omega, by omega, by omega, by omega, by omega⟩
 cases h
theorem P8 {a b a' : BJ} {s : BJ} (h : addF a b = some s) (hl : leR a' a) (h0 : 0 ≤ a'.cpu ∧ 0 ≤ a'.mem) : ∃ s', addF a' b = some s' ∧ leR s' s ∧ 0 ≤ s'.cpu ∧ 0 ≤ s'.mem := by
 obtain ⟨rfl, h1, h2, h3, h4, h5, h6, h7, h8⟩ := JW h
 obtain ⟨l1, l2⟩ := hl
 refine ⟨⟨a'.cpu + b.cpu, a'.mem + b.mem⟩, ?_, ⟨by simp only; omega, by simp only; omega⟩, by simp only; omega, by simp only; omega⟩
 unfold addF
 have hm : (Go.Proofs.YtccekmeifanipaaGreat.most : Int) = 1152921504606846976 := rfl
 rw [if_pos (by simp only [Dh, inB, Bool.and_eq_true, decide_eq_true_eq]; omega)]
theorem MO (node : Int) : ∀ {m l : List Ac}, m.Sublist l → ∀ {r r' s : BJ}, leR r' r → (0 ≤ r'.cpu ∧ 0 ≤ r'.mem) → l.foldl (useC node) (some r) = some s → ∃ s', m.foldl (useC node) (some r') = some s' ∧ leR s' s := by
 intro m l h
 induction h with
 | slnil => intro r r' s hl h0 hs; simp at hs; subst hs; exact ⟨r', rfl, hl⟩
 | cons a _ ih =>
  intro r r' s hl h0 hs
  rw [List.foldl_cons] at hs
  unfold useC at hs
  simp only at hs
  split at hs
  ·cases hq : addF r a.ask with
   | none => rw [hq] at hs; rw [show (fun o c => match o with | none => none | some r => if (c.node == node) = true then addF r c.ask else some r) = useC node from rfl, Ec] at hs; cases hs
   | some q =>
    rw [hq] at hs
    obtain ⟨e, h1, h2, _⟩ := JW hq
    exact ih (show leR r' q by subst e; exact ⟨by have := hl.1; simp only; omega, by have := hl.2; simp only; omega⟩) h0 hs
  exact ih hl h0 hs
 | cons_cons a _ ih =>
  intro r r' s hl h0 hs
  rw [List.foldl_cons] at hs ⊢
  unfold useC at hs ⊢
  simp only at hs ⊢
  split at hs
  ·rename_i hn
   rw [if_pos hn]
   cases hq : addF r a.ask with
   | none => rw [hq] at hs; rw [show (fun o c => match o with | none => none | some r => if (c.node == node) = true then addF r c.ask else some r) = useC node from rfl, Ec] at hs; cases hs
   | some q =>
    rw [hq] at hs
    obtain ⟨q', e1, e2, e3⟩ := P8 hq hl h0
    rw [e1]
    exact ih e2 e3 hs
  rename_i hn
  rw [if_neg hn]
  exact ih hl h0 hs
end Fsm
end
section
open Go.RowKit
namespace Fsm
def Kept (s t : Ab) : Prop := t.nodes = s.nodes ∧ t.allocs = s.allocs
theorem Kept.refl (s : Ab) : Kept s s := ⟨rfl, rfl⟩
theorem Kept.trans {s t u : Ab} (h : Kept s t) (k : Kept t u) : Kept s u := ⟨k.1.trans h.1, k.2.trans h.2⟩
theorem EZ {α : Type} {f : Ab → α → Ab} (h : ∀ s a, Kept s (f s a)) : ∀ (l : List α) (s : Ab), Kept s (l.foldl f s)
 | [], s => Kept.refl s
 | a :: r, s => (h s a).trans (EZ h r (f s a))
theorem eval_kept (s : Ab) (j : Int) : Kept s (eval s j) := by unfold eval; split <;> exact ⟨rfl, rfl⟩
theorem Gv (s : Ab) : Kept s (came s) := ⟨rfl, rfl⟩
theorem DY (s : Ab) : Kept s (system s) := EZ (fun t j => by split; exact eval_kept t j.id; exact Kept.refl t) s.jobs s
theorem NH (s : Ab) (i : Nat) : Kept s (AF s i) := by
 unfold AF
 split
 ·exact Kept.refl s
 split
 ·exact Kept.refl s
 split <;> exact ⟨rfl, rfl⟩
theorem DV (s : Ab) : Kept s (looked s) := EZ NH _ s
theorem EN (s : Ab) (j : Am) : Kept s (begins s j) := by
 unfold begins
 simp only
 refine Kept.trans ?_ (eval_kept _ _)
 split
 ·exact Kept.trans ⟨rfl, rfl⟩ (DV _)
 exact ⟨rfl, rfl⟩
structure Inv (s : Ab) : Prop where
 nd : (s.nodes.map NodD.id).Nodup
 fenced : ∀ c ∈ BH s.allocs, ∃ n, nodeAt s c.node = some n ∧ n.up = true ∧ n.epoch = c.epoch
 slots : ((BH s.allocs).map (fun a => (a.job, a.group, a.index))).Nodup
 room : ∀ n ∈ s.nodes, ∃ r, (BH s.allocs).foldl (useC n.id) (some ⟨0, 0⟩) = some r ∧ leR r n.cap
theorem Inv.kept {s t : Ab} (h : Inv s) (k : Kept s t) : Inv t := by
 obtain ⟨k1, k2⟩ := k
 have hn : ∀ x, nodeAt t x = nodeAt s x := fun x => by rw [nodeAt, nodeAt, k1]
 exact ⟨by rw [k1]; exact h.nd, fun c hc => by rw [k2] at hc; rw [hn]; exact h.fenced c hc, by rw [k2]; exact h.slots, fun n hn => by rw [k1] at hn; rw [k2]; exact h.room n hn⟩
theorem Inv.less {s t : Ab} (h : Inv s) (hn : t.nodes = s.nodes) (hs : (BH t.allocs).Sublist (BH s.allocs)) : Inv t := by
 have hna : ∀ x, nodeAt t x = nodeAt s x := fun x => by rw [nodeAt, nodeAt, hn]
 refine ⟨by rw [hn]; exact h.nd, fun c hc => by rw [hna]; exact h.fenced c (hs.subset hc), h.slots.sublist (hs.map _), fun n hm => ?_⟩
 rw [hn] at hm
 obtain ⟨r, h1, h2⟩ := h.room n hm
 obtain ⟨r', h3, h4⟩ := MO n.id hs (r := ⟨0, 0⟩) (r' := ⟨0, 0⟩) ⟨Int.le_refl _, Int.le_refl _⟩ ⟨Int.le_refl _, Int.le_refl _⟩ h1
 exact ⟨r', h3, by have := h4.1; have := h2.1; omega, by have := h4.2; have := h2.2; omega⟩
theorem Jz {s : Ab} {x : Int} {n : NodD} (h : nodeAt s x = some n) : n.id = x ∧ n ∈ s.nodes := by
 have := List.find?_some h
 exact ⟨by simpa using this, List.mem_of_find?_eq_some h⟩
theorem Inv.turn {s : Ab} (h : Inv s) (x : Int) (f : NodD → NodD) (hf : ∀ n, (f n).id = n.id ∧ (f n).cap = n.cap ∧ (f n).up = n.up ∧ (f n).epoch = n.epoch) : Inv { s with nodes := turn1 (fun n => n.id == x) f s.nodes } := by
 refine ⟨by rw [CJ _ _ _ (fun n => (hf n).1)]; exact h.nd, fun c hc => ?_, h.slots, fun n hm => ?_⟩
 ·obtain ⟨n, h1, h2, h3⟩ := h.fenced c hc
  by_cases hx : c.node = x
  ·refine ⟨f n, ?_, by rw [(hf n).2.2.1]; exact h2, by rw [(hf n).2.2.2]; exact h3⟩
   unfold nodeAt at h1 ⊢
   rw [hx] at h1 ⊢
   rw [IE _ _ (fun a => by rw [(hf a).1]), h1]; rfl
  refine ⟨n, ?_, h2, h3⟩
  unfold nodeAt at h1 ⊢
  rw [Dc _ _ _ (fun a ha => ?_), h1]
  have ha' : a.id = x := by simpa using ha
  exact ⟨by rw [(hf a).1]; simp [ha', Ne.symm hx], by simp [ha', Ne.symm hx]⟩
 have : ∀ l : List NodD, n ∈ turn1 (fun n => n.id == x) f l → ∃ m ∈ l, n.id = m.id ∧ n.cap = m.cap := fun l => by
  induction l with
  | nil => intro h; cases h
  | cons y r ih =>
   intro hh
   unfold turn1 at hh
   split at hh
   ·rcases List.mem_cons.1 hh with hh | hh
    ·subst hh; exact ⟨y, List.mem_cons_self .., (hf y).1, (hf y).2.1⟩
    exact ⟨n, List.mem_cons_of_mem _ hh, rfl, rfl⟩
   rcases List.mem_cons.1 hh with hh | hh
   ·subst hh; exact ⟨n, List.mem_cons_self .., rfl, rfl⟩
   obtain ⟨m, h1, h2⟩ := ih hh
   exact ⟨m, List.mem_cons_of_mem _ h1, h2⟩
 obtain ⟨m, h1, h2, h3⟩ := this _ hm
 rw [h2, h3]
 exact h.room m h1
theorem JA (node : Int) (s : Ab) (i : Nat) : (AU node s i).nodes = s.nodes ∧ Ons s.allocs (AU node s i).allocs ∧ (∀ j, j ≠ i → (AU node s i).allocs[j]? = s.allocs[j]?) ∧ (∀ b, (AU node s i).allocs[i]? = some b → b.node = node → Bc b = true) ∧ (AU node s i).allocs.length = s.allocs.length := by
 unfold AU
 cases hi : s.allocs[i]? with
 | none => exact ⟨rfl, Ons.refl _, fun _ _ => rfl, fun b hb => (by have hb' : s.allocs[i]? = some b := hb; rw [hi] at hb'; cases hb'), rfl⟩
 | some a =>
  simp only
  split
  ·rename_i hc
   obtain ⟨k1, k2⟩ := eval_kept { s with allocs := s.allocs.set i { a with state := 6 } } a.job
   rw [k1, k2]
   refine ⟨rfl, Ons.set _ _ _ (fun c hc' => ?_), fun j hj => List.getElem?_set_ne (Ne.symm hj), fun b hb hbn => ?_, List.length_set ..⟩
   ·rw [hi] at hc'; cases hc'
    simp only [Bool.and_eq_true, Bool.not_eq_true', Bc, decide_eq_false_iff_not] at hc
    exact ⟨rfl, by simp only; omega, fun e => by simp only [Bc, decide_eq_true_eq] at e; omega, fun e => e⟩
   simp only at hb
   rw [List.getElem?_set_self (List.getElem?_eq_some_iff.1 hi).1] at hb
   cases hb; rfl
  rename_i hc
  refine ⟨rfl, Ons.refl _, fun _ _ => rfl, fun b hb hbn => ?_, rfl⟩
  rw [hi] at hb; cases hb
  simp only [Bool.and_eq_true, beq_iff_eq, not_and, Bool.not_eq_true, Bool.not_eq_false'] at hc
  simpa using hc hbn
theorem GH (s : Ab) (node : Int) : (lost s node).nodes = s.nodes ∧ Ons s.allocs (lost s node).allocs ∧ ∀ b ∈ (lost s node).allocs, b.node = node → Bc b = true := by
 have key : ∀ k, k ≤ s.allocs.length → ((List.range k).foldl (AU node) s).nodes = s.nodes ∧ Ons s.allocs ((List.range k).foldl (AU node) s).allocs ∧ (∀ (i : Nat) b, i < k → ((List.range k).foldl (AU node) s).allocs[i]? = some b → b.node = node → Bc b = true) ∧ ((List.range k).foldl (AU node) s).allocs.length = s.allocs.length := fun k => by
  induction k with
  | zero => intro _; exact ⟨rfl, Ons.refl _, fun i b h => absurd h (by omega), rfl⟩
  | succ k ih =>
   intro hk
   obtain ⟨h1, h2, h3, h4⟩ := ih (by omega)
   rw [List.range_succ, List.foldl_append, List.foldl_cons, List.foldl_nil]
   generalize (List.range k).foldl (AU node) s = t at h1 h2 h3 h4
   obtain ⟨g1, g2, g3, g4, g5⟩ := JA node t k
   refine ⟨g1.trans h1, h2.trans g2, fun i b hi hb hbn => ?_, g5.trans h4⟩
   by_cases hik : i = k
   ·subst hik; exact g4 b hb hbn
   rw [g3 i hik] at hb
   exact h3 i b (by omega) hb hbn
 obtain ⟨h1, h2, h3, h4⟩ := key s.allocs.length (Nat.le_refl _)
 refine ⟨h1, h2, fun b hb hbn => ?_⟩
 obtain ⟨i, hi⟩ := List.getElem?_of_mem hb
 exact h3 i b (by have := (List.getElem?_eq_some_iff.1 hi).1; unfold lost at this; omega) hi hbn
theorem MN (x : Int) : ∀ (l : List Ac) (o : Option BJ), (∀ c ∈ l, c.node ≠ x) → l.foldl (useC x) o = o
 | [], o, _ => rfl
 | a :: r, o, h => by
  rw [List.foldl_cons, show useC x o a = o by
   cases o with
   | none => rfl
   | some r => simp [useC, h a (List.mem_cons_self ..)]]
  exact MN x r o (fun c hc => h c (List.mem_cons_of_mem _ hc))
theorem Inv.fresh {s t : Ab} (h : Inv s) {x : Int} (hl : (BH t.allocs).Sublist (BH s.allocs)) (ho : ∀ b ∈ t.allocs, b.node = x → Bc b = true)
  (hnd : (t.nodes.map NodD.id).Nodup) (hf : ∀ i, i ≠ x → nodeAt t i = nodeAt s i) (hr : ∀ n ∈ t.nodes, n.id = x ∧ 0 ≤ n.cap.cpu ∧ 0 ≤ n.cap.mem ∨ ∃ m ∈ s.nodes, m.id = n.id ∧ m.cap = n.cap) : Inv t := by
 have hx : ∀ c ∈ BH t.allocs, c.node ≠ x := fun c hc => by
  obtain ⟨a, ha, hoa, rfl⟩ := Jt hc
  intro e
  have := ho a ha e
  rw [hoa] at this; cases this
 refine ⟨hnd, fun c hc => ?_, h.slots.sublist (hl.map _), fun n hm => ?_⟩
 ·rw [hf _ (hx c hc)]; exact h.fenced c (hl.subset hc)
 rcases hr n hm with ⟨e, h1, h2⟩ | ⟨m, hm', e1, e2⟩
 ·rw [e, MN x _ _ hx]; exact ⟨_, rfl, h1, h2⟩
 obtain ⟨r, h1, h2⟩ := h.room m hm'
 rw [e1] at h1
 rw [e2] at h2
 obtain ⟨r', h3, h4⟩ := MO n.id hl (r := ⟨0, 0⟩) (r' := ⟨0, 0⟩) ⟨Int.le_refl _, Int.le_refl _⟩ ⟨Int.le_refl _, Int.le_refl _⟩ h1
 exact ⟨r', h3, by have := h4.1; have := h2.1; omega, by have := h4.2; have := h2.2; omega⟩
theorem Js {s : Ab} (h : Inv s) (n : NodD) (h1 : 0 ≤ n.cap.cpu) (h2 : 0 ≤ n.cap.mem) : Inv (joins s n) := by
 unfold joins
 refine Inv.kept (Inv.kept ?_ (DY _)) (Gv _)
 obtain ⟨l1, l2, l3⟩ := GH { s with nodes := Aj NodD.id n s.nodes } n.id
 refine h.fresh (x := n.id) l2.live l3 (by rw [l1]; exact FE h.nd) (fun i hi => by rw [nodeAt, l1]; exact CB hi _) (fun m hm => ?_)
 rw [l1] at hm
 rcases putL_mem hm with rfl | ⟨hm, _⟩
 ·exact .inl ⟨rfl, h1, h2⟩
 exact .inr ⟨m, hm, rfl, rfl⟩
end Fsm
end
section
open Go.RowKit
namespace Fsm
theorem Ons.Og (p : Ac → Bool) (f : Ac → Ac) : ∀ l, (∀ a, l.find? p = some a → On a (f a)) → Ons l (Fsm.turn1 p f l)
 | [], _ => trivial
 | a :: r, h => by
  unfold Fsm.turn1
  split
  ·rename_i hp
   exact ⟨h a (by rw [List.find?_cons, hp]), Ons.refl r⟩
  rename_i hp
  have hp' : p a = false := by simpa using hp
  exact ⟨On.refl a, Ons.Og p f r (fun b hb => h b (by rw [List.find?_cons, hp']; exact hb))⟩
theorem EA (n : NodD) (z : Ab × Bool) (r : Int × Int) : (report n z r).1.nodes = z.1.nodes ∧ Ons z.1.allocs (report n z r).1.allocs := by
 unfold report
 split
 ·exact ⟨rfl, Ons.refl _⟩
 rename_i a ha
 split
 ·exact ⟨rfl, Ons.refl _⟩
 rename_i ht
 have ht' : takes n a r.2 = true := by simpa using ht
 have hov : Bc a = false := by
  simp only [takes, Bool.and_eq_true, Bool.not_eq_true'] at ht'
  exact ht'.1.1.1.1.2
 have hlt : a.state < r.2 := by
  simp only [takes, Bool.and_eq_true, decide_eq_true_eq] at ht'
  exact ht'.1.1.1.2
 have hO : Ons z.1.allocs (turn1 (fun a => a.id == r.1) (fun a => { a with state := r.2 }) z.1.allocs) := Ons.Og _ _ _ (fun b hb => by
  rw [ha] at hb
  cases hb
  exact ⟨rfl, by simp only; omega, fun e => (by rw [hov] at e; cases e), fun e => e⟩)
 simp only
 split
 ·obtain ⟨k1, k2⟩ := eval_kept { z.1 with allocs := turn1 (fun a => a.id == r.1) (fun a => { a with state := r.2 }) z.1.allocs } a.job
  exact ⟨k1, by rw [k2]; exact hO⟩
 split
 ·exact ⟨rfl, hO⟩
 split
 ·exact ⟨rfl, hO⟩
 obtain ⟨k1, k2⟩ := eval_kept { z.1 with allocs := turn1 (fun a => a.id == r.1) (fun a => { a with state := r.2 }) z.1.allocs } a.job
 exact ⟨k1, by simp only; rw [k2]; exact hO⟩
theorem F3 (n : NodD) : ∀ (l : List (Int × Int)) (z : Ab × Bool), (l.foldl (report n) z).1.nodes = z.1.nodes ∧ Ons z.1.allocs (l.foldl (report n) z).1.allocs
 | [], z => ⟨rfl, Ons.refl _⟩
 | r :: l, z => by
  obtain ⟨h1, h2⟩ := EA n z r
  obtain ⟨k1, k2⟩ := F3 n l (report n z r)
  exact ⟨k1.trans h1, h2.trans k2⟩
theorem Inv.plain {s t : Ab} (h : Inv s) (h1 : t.nodes = s.nodes) (h2 : t.allocs = s.allocs) : Inv t := h.kept ⟨h1, h2⟩
theorem LK {s : Ab} (h : Inv s) (c : BB) : Inv (BM s c).1 := by
 unfold BM
 split
 ·exact h
 split
 ·split
  ·exact h
  exact h.kept (EN _ _)
 split
 ·exact h
 exact h.kept (EN _ _)
theorem LY {s : Ab} (h : Inv s) (c : BB) : Inv (cancel s c).1 := by
 unfold cancel
 split
 ·exact h
 exact Inv.kept (h.plain rfl rfl) (eval_kept _ _)
theorem Ki {s : Ab} (h : Inv s) (c : BB) : Inv (register s c).1 := by
 unfold register
 split
 ·exact h
 rename_i hok
 have hok' : CF c.node = true := by simpa using hok
 simp only [CF, Bool.and_eq_true, decide_eq_true_eq] at hok'
 split
 ·exact Js h _ (by simp only; omega) (by simp only; omega)
 split
 ·exact h
 split
 ·split <;> exact h
 exact Js h _ (by simp only; omega) (by simp only; omega)
theorem OQ {s : Ab} (h : Inv s) (c : BB) : Inv (DJ s c).1 := by
 unfold DJ
 split
 ·exact h
 split
 ·exact h
 split
 ·exact h
 split
 ·exact h
 simp only
 have h1 := h.turn c.node.id (fun n => { n with seq := c.node.seq }) (fun n => ⟨rfl, rfl, rfl, rfl⟩)
 obtain ⟨k1, k2⟩ := F3 c.node c.reports ({ s with nodes := turn1 (fun n => n.id == c.node.id) (fun n => { n with seq := c.node.seq }) s.nodes }, false)
 have h2 := h1.less k1 k2.live
 have h3 := h2.kept (DV _)
 split
 ·exact h3.kept (Gv _)
 exact h3
theorem Oh {s : Ab} (h : Inv s) (c : BB) : Inv (down s c).1 := by
 unfold down
 split
 ·exact h
 split
 ·exact h
 split
 ·exact h
 refine Inv.kept ?_ (DY _)
 obtain ⟨l1, l2, l3⟩ := GH { s with nodes := turn1 (fun n => n.id == c.node.id) (fun n => { n with up := false, epoch := wrap64 (n.epoch + 1) }) s.nodes } c.node.id
 refine h.fresh (x := c.node.id) l2.live l3 (by rw [l1]; have hh := CJ (fun n : NodD => n.id == c.node.id) (fun n => { n with up := false, epoch := wrap64 (n.epoch + 1) }) NodD.id (fun n => rfl) s.nodes; show (List.map NodD.id (turn1 _ _ s.nodes)).Nodup; rw [hh]; exact h.nd) (fun i hi => ?_) (fun m hm => ?_)
 ·rw [nodeAt, l1]
  have ho : ∀ a : NodD, (a.id == c.node.id) = true → (a.id == i) = false ∧ (a.id == i) = false := fun a ha => by
   have ha' : a.id = c.node.id := by simpa using ha
   exact ⟨by simp [ha', Ne.symm hi], by simp [ha', Ne.symm hi]⟩
  exact Dc _ _ _ ho _
 rw [l1] at hm
 have : ∀ l : List NodD, m ∈ turn1 (fun n => n.id == c.node.id) (fun n => { n with up := false, epoch := wrap64 (n.epoch + 1) }) l → ∃ q ∈ l, q.id = m.id ∧ q.cap = m.cap := fun l => by
  induction l with
  | nil => intro h; cases h
  | cons y r ih =>
   intro hh
   unfold turn1 at hh
   split at hh
   ·rcases List.mem_cons.1 hh with hh | hh
    ·subst hh; exact ⟨y, List.mem_cons_self .., rfl, rfl⟩
    exact ⟨m, List.mem_cons_of_mem _ hh, rfl, rfl⟩
   rcases List.mem_cons.1 hh with hh | hh
   ·subst hh; exact ⟨m, List.mem_cons_self .., rfl, rfl⟩
   obtain ⟨q, h1, h2⟩ := ih hh
   exact ⟨q, List.mem_cons_of_mem _ h1, h2⟩
 obtain ⟨q, h1, h2, h3⟩ := this _ hm
 exact .inr ⟨q, h1, h2, h3⟩
theorem Np {s : Ab} (h : Inv s) (c : BB) : Inv (drain s c).1 := by
 unfold drain
 split
 ·exact h
 simp only
 have h1 := h.turn c.node.id (fun n => { n with drain := c.node.drain }) (fun n => ⟨rfl, rfl, rfl, rfl⟩)
 have h2 : Inv ((s.allocs.foldl (fun t a => if a.node == c.node.id && !Bc a then eval t a.job else t) { s with nodes := turn1 (fun n => n.id == c.node.id) (fun n => { n with drain := c.node.drain }) s.nodes })) :=
  h1.kept (EZ (fun t a => by split; exact eval_kept t a.job; exact Kept.refl t) _ _)
 have h3 := h2.kept (DY _)
 split
 ·exact h3
 exact h3.kept (Gv _)
theorem Md {s : Ab} (h : Inv s) (c : BB) : Inv (revert s c).1 := by
 unfold revert
 split
 ·exact h
 split
 ·exact h
 split
 ·exact h
 simp only
 split
 ·exact Inv.kept (h.plain rfl rfl) (eval_kept _ _)
 split
 ·exact Inv.kept (h.plain rfl rfl) (eval_kept _ _)
 split
 ·exact h
 exact Inv.kept (h.plain rfl rfl) (EN _ _)
theorem LM (l : List Ac) (x : Int) : CS l x = ((BH l).foldl (useC x) (some ⟨0, 0⟩)).getD Go.Proofs.YtccekmeifanipaaGreat.big := by
 rw [CS, KF]
theorem L9 {s : Ab} (h : Inv s) {j : Am} {n : NodD} {x : Ac} (hn : nodeAt s n.id = some n) (hu : n.up = true) (hm : D6 s j n x = true) : Inv (placed s j n x) := by
 simp only [D6, Bool.and_eq_true] at hm
 obtain ⟨⟨_, hany⟩, hfit⟩ := hm
 have hnm := (Jz hn).2
 have hl : BH (placed s j n x).allocs = BH s.allocs ++ [core ⟨s.next, j.id, j.ver, x.group, x.index, n.id, n.epoch, x.ask, false, 1⟩] := by
  rw [placed, Kc]
  rfl
 have hna : ∀ i, nodeAt (placed s j n x) i = nodeAt s i := fun i => rfl
 refine ⟨h.nd, fun c hc => ?_, ?_, fun m hmm => ?_⟩
 ·rw [hna]
  rw [hl] at hc
  rcases List.mem_append.1 hc with hc | hc
  ·exact h.fenced c hc
  rw [List.mem_singleton] at hc
  subst hc
  exact ⟨n, hn, hu, rfl⟩
 ·rw [hl, List.map_append]
  refine List.nodup_append.2 ⟨h.slots, by simp, fun a ha b hb e => ?_⟩
  rw [List.map_cons, List.map_nil, List.mem_singleton] at hb
  obtain ⟨c, hc, rfl⟩ := List.mem_map.1 ha
  obtain ⟨q, hq, hqo, rfl⟩ := Jt hc
  rw [hb] at e
  simp only [core, Prod.mk.injEq] at e
  have h1 : s.allocs.any (fun a => a.job == j.id && a.group == x.group && a.index == x.index && (!Bc a || (j.ty == 2 && a.ver == j.ver && a.state == 3))) = true := by
   rw [List.any_eq_true]
   exact ⟨q, hq, by simp [e.1, e.2.1, e.2.2, hqo]⟩
  rw [h1] at hany
  exact absurd hany (by decide)
 rw [hl, List.foldl_append, List.foldl_cons, List.foldl_nil]
 obtain ⟨r, h1, h2⟩ := h.room m hmm
 rw [h1]
 by_cases hid : n.id = m.id
 ·have hmn : m = n := by
   have h3 : nodeAt s n.id = some m := by
    have key : ∀ l : List NodD, (l.map NodD.id).Nodup → m ∈ l → l.find? (fun y => y.id == n.id) = some m := fun l => by
     induction l with
     | nil => intro _ h; cases h
     | cons y r ih =>
      intro hnd hm
      rw [List.map_cons, List.nodup_cons] at hnd
      rw [List.find?_cons]
      rcases List.mem_cons.1 hm with rfl | hm
      ·rw [show (m.id == n.id) = true by simp [hid]]
      have : y.id ≠ n.id := fun e => hnd.1 (List.mem_map.2 ⟨m, hm, by rw [e, hid]⟩)
      rw [show (y.id == n.id) = false by simp [this]]
      exact ih hnd.2 hm
    exact key _ h.nd hmm
   rw [hn] at h3
   cases h3; rfl
  subst hmn
  have h4 : CS s.allocs m.id = r := by rw [LM, h1]; rfl
  rw [h4, FV] at hfit
  cases hq : addF r x.ask with
  | none => rw [hq] at hfit; cases hfit
  | some q =>
   rw [hq] at hfit
   simp only [K4, Bool.and_eq_true, decide_eq_true_eq] at hfit
   exact ⟨q, by simp [useC, core, hq], hfit.1, hfit.2⟩
 exact ⟨r, by simp [useC, core, hid], h2⟩
theorem BU (j : Am) (n : NodD) : ∀ l : List Ac, l.foldl (AZ j n) (none : Option Ab) = none
 | [] => rfl
 | x :: r => BU j n r
theorem F5 (j : Am) (n : NodD) (hu : n.up = true) : ∀ (l : List Ac) (s t : Ab), Inv s → nodeAt s n.id = some n → BR j n l s = some t → Inv t ∧ t.nodes = s.nodes
 | [], s, t, h, _, e => by cases e; exact ⟨h, rfl⟩
 | x :: r, s, t, h, hn, e => by
  unfold BR at e
  rw [List.foldl_cons, show AZ j n (some s) x = if D6 s j n x then some (placed s j n x) else none from rfl] at e
  split at e
  ·rename_i hm
   exact F5 j n hu r (placed s j n x) t (L9 h hn hu hm) hn e
  rw [BU] at e; cases e
theorem Ij : ∀ (l : List Ac) (k : Nat), (∀ a, l[k]? = some a → Bc a = true) → BH (l.eraseIdx k) = BH l
 | [], _, _ => rfl
 | a :: r, 0, h => by simp [BH, h a rfl]
 | a :: r, k + 1, h => by
  have ih := Ij r k (fun b hb => h b (by simpa using hb))
  unfold BH at ih ⊢
  rw [List.eraseIdx_cons_succ, List.filter_cons, List.filter_cons]
  split <;> simp [ih]
theorem GI (jobs : List Am) : ∀ (n : Nat) (l m : List Ac), CZ jobs n l = some m → BH m = BH l ∧ m.length ≤ 64
 | 0, l, m, e => by
  unfold CZ at e
  split at e
  ·rename_i hle; cases e; exact ⟨rfl, hle⟩
  cases e
 | n + 1, l, m, e => by
  unfold CZ at e
  split at e
  ·rename_i hle; cases e; exact ⟨rfl, hle⟩
  split at e
  ·cases e
  rename_i k hk
  obtain ⟨hkl, hp, _⟩ := List.findIdx?_eq_some_iff_getElem.1 hk
  obtain ⟨h1, h2⟩ := GI jobs n _ m e
  refine ⟨h1.trans (Ij l k (fun a ha => ?_)), h2⟩
  obtain ⟨_, rfl⟩ := List.getElem?_eq_some_iff.1 ha
  cases ho : Bc l[k] with
  | true => rfl
  | false => rw [BZ, ho] at hp; simp at hp
theorem LW {s : Ab} (h : Inv s) (j : Am) (node : Int) (l : List Ac) : Inv (places s j node l).1 := by
 unfold places
 split
 ·exact h
 rename_i n hn
 split
 ·exact h
 rename_i hu
 have hu' : n.up = true := by
  simp only [Bool.or_eq_true, Bool.not_eq_true', not_or] at hu
  simpa using hu.1.1
 split
 ·exact h
 rename_i t ht
 have hid := (Jz hn).1
 obtain ⟨h1, h2⟩ := F5 j n hu' _ s t h (by rw [hid]; exact hn) ht
 split
 ·exact h
 rename_i m hm
 exact h1.less rfl (by rw [show ({ t with allocs := m } : Ab).allocs = m from rfl, (GI _ _ _ _ hm).1]; exact List.Sublist.refl _)
theorem Fa (job : Int) : ∀ (ids : List Int) (l : List Ac), Ons l (stops job l ids)
 | [], l => Ons.refl l
 | i :: r, l => (Ons.turn1 _ _ (fun a _ => by split; exact ⟨rfl, Int.le_refl _, fun _ => rfl, fun _ => rfl⟩; exact On.refl a) l).trans (Fa job r _)
theorem OV {s : Ab} (h : Inv s) (c : BB) : Inv (plan s c).1 := by
 unfold plan
 simp only
 split
 ·rename_i j e _ _
  split
  ·exact h
  have h1 : Inv { s with allocs := stops c.plan.job s.allocs c.plan.stops } := h.less rfl (Fa _ _ _).live
  have h2 : ∀ (l : List Int) (z : Ab × Bool), Inv z.1 → Inv (l.foldl (fun z n => ((places z.1 j n c.plan.places).1, z.2 && (places z.1 j n c.plan.places).2)) z).1 := fun l => by
   induction l with
   | nil => intro z hz; exact hz
   | cons n r ih => intro z hz; exact ih _ (LW hz j n _)
  have h3 := h2 (BD c.plan.places) ({ s with allocs := stops c.plan.job s.allocs c.plan.stops }, true) h1
  split
  ·exact h3.plain rfl rfl
  exact h3.plain rfl rfl
 exact h
theorem G9 {s : Ab} (h : Inv s) (c : BB) : Inv (command s c).1 := by
 unfold command
 repeat' split
 ·exact h
 ·exact LK h c
 ·exact LY h c
 ·exact Ki h c
 ·exact OQ h c
 ·exact Oh h c
 ·exact Np h c
 ·exact OV h c
 ·exact Md h c
 exact h
theorem NA {s : Ab} (h : Inv s) (ix : Int) (c : BB) : Inv (apply s ix c).1 := by
 have h0 : Inv { s with index := ix } := h.plain rfl rfl
 unfold apply
 simp only
 split
 ·exact G9 h0 c
 split
 ·exact h0
 split
 ·split <;> exact h0
 exact (G9 h0 c).plain rfl rfl
theorem PZ : Inv new := ⟨by simp [new], by simp [new, BH], by simp [new, BH], by simp [new]⟩
end Fsm
end
section
open Go.RowKit
namespace Fsm
structure Num (k : Nat) (s : Ab) : Prop where
 ids : (s.allocs.map Ac.id).Pairwise (· < ·)
 lt : ∀ a ∈ s.allocs, a.id < s.next
 pos : 1 ≤ s.next
 up : s.next ≤ 1 + (k : Int)
 len : s.allocs.length ≤ 64
def Cf (s t : Ab) : Prop := t.next = s.next ∧ Ons s.allocs t.allocs
theorem Cf.refl (s : Ab) : Cf s s := ⟨rfl, Ons.refl _⟩
theorem Cf.trans {s t u : Ab} (h : Cf s t) (k : Cf t u) : Cf s u := ⟨k.1.trans h.1, h.2.trans k.2⟩
theorem Ons.ids : ∀ {l m : List Ac}, Ons l m → m.map Ac.id = l.map Ac.id
 | [], [], _ => rfl
 | [], _ :: _, h => h.elim
 | _ :: _, [], h => h.elim
 | a :: l, b :: m, h => by rw [List.map_cons, List.map_cons, Ons.ids h.2, (Dt h.1.core).2.2.2.2.2.2.1]
theorem Num.NL {k : Nat} {s t : Ab} (h : Num k s) (n : Cf s t) : Num k t := by
 have hi := n.2.ids
 refine ⟨by rw [hi]; exact h.ids, fun b hb => ?_, by rw [n.1]; exact h.pos, by rw [n.1]; exact h.up, by have := congrArg List.length hi; simp only [List.length_map] at this; have := h.len; omega⟩
 obtain ⟨a, ha, ho⟩ := n.2.mem hb
 rw [n.1, (Dt ho.core).2.2.2.2.2.2.1]
 exact h.lt a ha
theorem Num.more {k k' : Nat} {s : Ab} (h : Num k s) (hk : k ≤ k') : Num k' s := ⟨h.ids, h.lt, h.pos, by have := h.up; omega, h.len⟩
theorem EY {α : Type} {f : Ab → α → Ab} (h : ∀ s a, Cf s (f s a)) : ∀ (l : List α) (s : Ab), Cf s (l.foldl f s)
 | [], s => Cf.refl s
 | a :: r, s => (h s a).trans (EY h r (f s a))
theorem Cn (s : Ab) (j : Int) : Cf s (eval s j) := by unfold eval; split <;> exact ⟨rfl, Ons.refl _⟩
theorem GD (s : Ab) : Cf s (came s) := ⟨rfl, Ons.refl _⟩
theorem ED (s : Ab) : Cf s (system s) := EY (fun t j => by split; exact Cn t j.id; exact Cf.refl t) s.jobs s
theorem Nc (s : Ab) (i : Nat) : Cf s (AF s i) := by
 unfold AF
 split
 ·exact Cf.refl s
 split
 ·exact Cf.refl s
 split <;> exact ⟨rfl, Ons.refl _⟩
theorem GV (s : Ab) : Cf s (looked s) := EY Nc _ s
theorem EH (s : Ab) (j : Am) : Cf s (begins s j) := by
 unfold begins
 simp only
 refine Cf.trans ?_ (Cn _ _)
 split
 ·exact Cf.trans ⟨rfl, Ons.refl _⟩ (GV _)
 exact ⟨rfl, Ons.refl _⟩
theorem Jd (node : Int) (s : Ab) (i : Nat) : (AU node s i).next = s.next := by
 unfold AU
 split
 ·rfl
 split
 ·rename_i a _ _
  exact (Cn { s with allocs := s.allocs.set i { a with state := 6 } } a.job).1
 rfl
theorem JG (s : Ab) (node : Int) : Cf s (lost s node) := by
 refine ⟨?_, (GH s node).2.1⟩
 have : ∀ (l : List Nat) (s : Ab), (l.foldl (AU node) s).next = s.next := fun l => by
  induction l with
  | nil => intro s; rfl
  | cons i r ih => intro s; rw [List.foldl_cons, ih, Jd]
 exact this _ s
theorem H7 (s : Ab) (n : NodD) : Cf s (joins s n) := by
 unfold joins
 exact ((Cf.trans (t := { s with nodes := Aj NodD.id n s.nodes }) ⟨rfl, Ons.refl _⟩ (JG _ _)).trans (ED _)).trans (GD _)
theorem Lv (n : NodD) (z : Ab × Bool) (r : Int × Int) : (report n z r).1.next = z.1.next := by
 unfold report
 split
 ·rfl
 split
 ·rfl
 rename_i a _ _
 simp only
 split
 ·exact (Cn { z.1 with allocs := turn1 (fun a => a.id == r.1) (fun a => { a with state := r.2 }) z.1.allocs } a.job).1
 split
 ·rfl
 split
 ·rfl
 exact (Cn { z.1 with allocs := turn1 (fun a => a.id == r.1) (fun a => { a with state := r.2 }) z.1.allocs } a.job).1
theorem FT (n : NodD) : ∀ (l : List (Int × Int)) (z : Ab × Bool), Cf z.1 (l.foldl (report n) z).1
 | [], z => Cf.refl _
 | r :: l, z => Cf.trans ⟨Lv n z r, (EA n z r).2⟩ (FT n l (report n z r))
structure Px (k : Nat) (s : Ab) : Prop where
 ids : (s.allocs.map Ac.id).Pairwise (· < ·)
 lt : ∀ a ∈ s.allocs, a.id < s.next
 pos : 1 ≤ s.next
 up : s.next ≤ 1 + (k : Int)
theorem LD {k : Nat} {s : Ab} (h : Px k s) (hk : k < 4611686018427387904) (j : Am) (n : NodD) (x : Ac) : Px (k + 1) (placed s j n x) := by
 have hp := h.pos
 have hu := h.up
 have hw : wrap64 (s.next + 1) = s.next + 1 := by unfold wrap64; omega
 refine ⟨?_, fun a ha => ?_, ?_, ?_⟩
 ·rw [placed, List.map_append, List.pairwise_append]
  refine ⟨h.ids, by simp, fun a ha b hb => ?_⟩
  obtain ⟨c, hc, rfl⟩ := List.mem_map.1 ha
  rw [List.map_cons, List.map_nil, List.mem_singleton] at hb
  rw [hb]
  exact h.lt c hc
 ·rw [show (placed s j n x).next = wrap64 (s.next + 1) from rfl, hw]
  rcases List.mem_append.1 ha with ha | ha
  ·have := h.lt a ha; omega
  rw [List.mem_singleton] at ha; subst ha; simp only; omega
 ·rw [show (placed s j n x).next = wrap64 (s.next + 1) from rfl, hw]; omega
 rw [show (placed s j n x).next = wrap64 (s.next + 1) from rfl, hw]; omega
theorem Fz (j : Am) (n : NodD) : ∀ (l : List Ac) (k : Nat) (s t : Ab), Px k s → k + l.length < 4611686018427387904 → BR j n l s = some t → Px (k + l.length) t
 | [], k, s, t, h, _, e => by cases e; exact h
 | x :: r, k, s, t, h, hk, e => by
  unfold BR at e
  rw [List.foldl_cons, show AZ j n (some s) x = if D6 s j n x then some (placed s j n x) else none from rfl] at e
  rw [List.length_cons] at hk
  split at e
  ·have := Fz j n r (k + 1) (placed s j n x) t (LD h (by omega) j n x) (by omega) e
   rw [List.length_cons, show k + (r.length + 1) = k + 1 + r.length by omega]
   exact this
  rw [BU] at e; cases e
theorem Ic (jobs : List Am) : ∀ (n : Nat) (l m : List Ac), CZ jobs n l = some m → m.Sublist l
 | 0, l, m, e => by
  unfold CZ at e
  split at e
  ·cases e; exact List.Sublist.refl _
  cases e
 | n + 1, l, m, e => by
  unfold CZ at e
  split at e
  ·cases e; exact List.Sublist.refl _
  split at e
  ·cases e
  rename_i k hk
  exact (Ic jobs n _ m e).trans (List.eraseIdx_sublist l k)
theorem LU {k : Nat} {s : Ab} (h : Num k s) (j : Am) (node : Int) (l : List Ac) (hk : k + l.length < 4611686018427387904) : Num (k + l.length) (places s j node l).1 := by
 have h0 : Num (k + l.length) s := h.more (by omega)
 unfold places
 split
 ·exact h0
 rename_i n hn
 split
 ·exact h0
 split
 ·exact h0
 rename_i t ht
 have hfl : (l.filter (fun x => x.node == node)).length ≤ l.length := List.length_filter_le _ _
 have hx := Fz j n _ k s t ⟨h.ids, h.lt, h.pos, h.up⟩ (by omega) ht
 split
 ·exact h0
 rename_i m hm
 have hs := Ic _ _ _ _ hm
 refine ⟨hx.ids.sublist (hs.map _), fun a ha => hx.lt a (hs.subset ha), hx.pos, by have := hx.up; simp only; omega, (GI _ _ _ _ hm).2⟩
theorem KP (x : Int) : ∀ l : List Int, (Ha x l).length ≤ l.length + 1
 | [] => by simp [Ha]
 | y :: r => by
  unfold Ha
  split
  ·simp
  split
  ·simp
  have := KP x r; simp only [List.length_cons]; omega
theorem EJ : ∀ l : List Ac, (BD l).length ≤ l.length
 | [] => by simp [BD]
 | a :: r => by
  have h1 := EJ r
  have h2 := KP a.node (BD r)
  have h3 : BD (a :: r) = Ha a.node (BD r) := rfl
  rw [h3, List.length_cons]; omega
theorem O7 {k : Nat} {s : Ab} (h : Num k s) (c : BB) (hk : k + c.plan.places.length * c.plan.places.length < 4611686018427387904) : Num (k + c.plan.places.length * c.plan.places.length) (plan s c).1 := by
 have h0 : Num (k + c.plan.places.length * c.plan.places.length) s := h.more (by omega)
 unfold plan
 simp only
 split
 ·rename_i j e _ _
  split
  ·exact h0
  have h1 : Num k { s with allocs := stops c.plan.job s.allocs c.plan.stops } := h.NL ⟨rfl, Fa _ _ _⟩
  have h2 : ∀ (l : List Int) (k : Nat) (z : Ab × Bool), Num k z.1 → k + l.length * c.plan.places.length < 4611686018427387904 → Num (k + l.length * c.plan.places.length) (l.foldl (fun z n => ((places z.1 j n c.plan.places).1, z.2 && (places z.1 j n c.plan.places).2)) z).1 := fun l => by
   induction l with
   | nil => intro k z hz _; simpa using hz
   | cons n r ih =>
    intro k z hz hk
    rw [List.length_cons, Nat.add_mul] at hk ⊢
    have h3 := ih (k + c.plan.places.length) ((places z.1 j n c.plan.places).1, z.2 && (places z.1 j n c.plan.places).2) (LU hz j n _ (by omega)) (by omega)
    rw [List.foldl_cons]
    refine h3.more (by omega)
  have hle := Nat.mul_le_mul_right c.plan.places.length (EJ c.plan.places)
  have h3 := (h2 (BD c.plan.places) k ({ s with allocs := stops c.plan.job s.allocs c.plan.stops }, true) h1 (by omega)).more (k' := k + c.plan.places.length * c.plan.places.length) (by omega)
  split
  ·exact h3.NL ⟨rfl, Ons.refl _⟩
  exact h3.NL ⟨rfl, Ons.refl _⟩
 exact h0
theorem GY {k : Nat} {s : Ab} (h : Num k s) (c : BB) (hk : k + c.plan.places.length * c.plan.places.length < 4611686018427387904) : Num (k + c.plan.places.length * c.plan.places.length) (command s c).1 := by
 have h0 : Num (k + c.plan.places.length * c.plan.places.length) s := h.more (by omega)
 have hn : ∀ {t : Ab}, Cf s t → Num (k + c.plan.places.length * c.plan.places.length) t := fun n => h0.NL n
 unfold command
 repeat' split
 ·exact h0
 ·unfold BM
  split
  ·exact h0
  split
  ·split
   ·exact h0
   exact hn (EH _ _)
  split
  ·exact h0
  exact hn (EH _ _)
 ·unfold cancel
  split
  ·exact h0
  exact hn (Cf.trans ⟨rfl, Ons.refl _⟩ (Cn _ _))
 ·unfold register
  split
  ·exact h0
  split
  ·exact hn (H7 _ _)
  split
  ·exact h0
  split
  ·split <;> exact h0
  exact hn (H7 _ _)
 ·unfold DJ
  split
  ·exact h0
  split
  ·exact h0
  split
  ·exact h0
  split
  ·exact h0
  simp only
  have h1 : Cf s (c.reports.foldl (report c.node) ({ s with nodes := turn1 (fun n => n.id == c.node.id) (fun n => { n with seq := c.node.seq }) s.nodes }, false)).1 := Cf.trans ⟨rfl, Ons.refl _⟩ (FT c.node c.reports ({ s with nodes := turn1 (fun n => n.id == c.node.id) (fun n => { n with seq := c.node.seq }) s.nodes }, false))
  have h2 := h1.trans (GV _)
  split
  ·exact hn (h2.trans (GD _))
  exact hn h2
 ·unfold down
  split
  ·exact h0
  split
  ·exact h0
  split
  ·exact h0
  exact hn ((Cf.trans (t := { s with nodes := turn1 (fun n => n.id == c.node.id) (fun n => { n with up := false, epoch := wrap64 (n.epoch + 1) }) s.nodes }) ⟨rfl, Ons.refl _⟩ (JG _ _)).trans (ED _))
 ·unfold drain
  split
  ·exact h0
  simp only
  have h1 : Cf s (system (s.allocs.foldl (fun t a => if a.node == c.node.id && !Bc a then eval t a.job else t) { s with nodes := turn1 (fun n => n.id == c.node.id) (fun n => { n with drain := c.node.drain }) s.nodes })) :=
   (Cf.trans (t := { s with nodes := turn1 (fun n => n.id == c.node.id) (fun n => { n with drain := c.node.drain }) s.nodes }) ⟨rfl, Ons.refl _⟩ (EY (fun t a => by split; exact Cn t a.job; exact Cf.refl t) _ _)).trans (ED _)
  split
  ·exact hn h1
  exact hn (h1.trans (GD _))
 ·exact O7 h c hk
 ·unfold revert
  split
  ·exact h0
  split
  ·exact h0
  split
  ·exact h0
  simp only
  split
  ·exact hn (Cf.trans ⟨rfl, Ons.refl _⟩ (Cn _ _))
  split
  ·exact hn (Cf.trans ⟨rfl, Ons.refl _⟩ (Cn _ _))
  split
  ·exact h0
  exact hn (Cf.trans ⟨rfl, Ons.refl _⟩ (EH _ _))
 exact h0
theorem Nf {k : Nat} {s : Ab} (h : Num k s) (ix : Int) (c : BB) (hk : k + c.plan.places.length * c.plan.places.length < 4611686018427387904) : Num (k + c.plan.places.length * c.plan.places.length) (apply s ix c).1 := by
 have h1 : Num k { s with index := ix } := h.NL ⟨rfl, Ons.refl _⟩
 have h0 : Num (k + c.plan.places.length * c.plan.places.length) { s with index := ix } := h1.more (by omega)
 unfold apply
 simp only
 split
 ·exact GY h1 c hk
 split
 ·exact h0
 split
 ·split <;> exact h0
 exact (GY h1 c hk).NL ⟨rfl, Ons.refl _⟩
theorem P9 : Num 0 new := ⟨by simp [new], by simp [new], by simp [new], by simp [new], by simp [new]⟩
end Fsm
end
section
open Go.RowKit
namespace Fsm
def Way (s t : Ab) : Prop := ∀ a ∈ s.allocs, (∃ b ∈ t.allocs, On a b) ∨ (Bc a = true)
def KQ (s t : Ab) : Prop := s.next ≤ t.next ∧ ∀ b ∈ t.allocs, (∃ a ∈ s.allocs, On a b) ∨ s.next ≤ b.id
theorem Cf.news {s t : Ab} (h : Cf s t) : KQ s t := ⟨by rw [h.1]; exact Int.le_refl _, fun b hb => .inl (h.2.mem hb)⟩
theorem Way.refl (s : Ab) : Way s s := fun a ha => .inl ⟨a, ha, On.refl a⟩
theorem KQ.refl (s : Ab) : KQ s s := ⟨Int.le_refl _, fun b hb => .inl ⟨b, hb, On.refl b⟩⟩
theorem Way.trans {s t u : Ab} (h : Way s t) (k : Way t u) (hs : ∀ a ∈ s.allocs, ∀ b ∈ t.allocs, On a b → b.state = a.state ∨ ∃ c ∈ u.allocs, On b c) : Way s u := fun a ha => by
 rcases h a ha with ⟨b, hb, ho⟩ | ho
 ·rcases k b hb with ⟨c, hc, ho'⟩ | hov
  ·exact .inl ⟨c, hc, ho.trans ho'⟩
  rcases hs a ha b hb ho with e | ⟨c, hc, ho'⟩
  ·exact .inr (by simp only [Bc] at hov ⊢; rwa [e] at hov)
  exact .inl ⟨c, hc, ho.trans ho'⟩
 exact .inr ho
theorem KQ.trans {s t u : Ab} (h : KQ s t) (k : KQ t u) : KQ s u :=
 ⟨Int.le_trans h.1 k.1, fun c hc => by
  rcases k.2 c hc with ⟨b, hb, ho⟩ | hn
  ·rcases h.2 b hb with ⟨a, ha, ho'⟩ | hn
   ·exact .inl ⟨a, ha, ho'.trans ho⟩
   exact .inr (by rw [(Dt ho.core).2.2.2.2.2.2.1]; exact hn)
  exact .inr (Int.le_trans h.1 hn)⟩
def Ky (s t : Ab) : Prop := s.next ≤ t.next ∧ (∀ a ∈ s.allocs, a ∈ t.allocs ∨ Bc a = true) ∧ ∀ b ∈ t.allocs, b ∈ s.allocs ∨ s.next ≤ b.id
theorem Ky.refl (s : Ab) : Ky s s := ⟨Int.le_refl _, fun a ha => .inl ha, fun b hb => .inl hb⟩
theorem Ky.trans {s t u : Ab} (h : Ky s t) (k : Ky t u) : Ky s u :=
 ⟨Int.le_trans h.1 k.1, fun a ha => by
  rcases h.2.1 a ha with h1 | h1
  ·exact k.2.1 a h1
  ·exact .inr h1, fun c hc => by
  rcases k.2.2 c hc with h1 | h1
  ·exact h.2.2 c h1
  exact .inr (Int.le_trans h.1 h1)⟩
theorem Ky.news {s t : Ab} (h : Ky s t) : KQ s t := ⟨h.1, fun b hb => by
 rcases h.2.2 b hb with h1 | h1
 ·exact .inl ⟨b, h1, On.refl b⟩
 exact .inr h1⟩
end Fsm
end
section
open Go.RowKit
namespace Fsm
def Hg (k : Int) : List Int → List Int
 | [] => [k]
 | y :: r => if k ≤ y then k :: (y :: r).filter (fun z => !(z == k)) else y :: Hg k r
theorem Eb {α : Type} (key : α → Int) (x : α) : ∀ l : List α, (Aj key x l).map key = Hg (key x) (l.map key)
 | [] => rfl
 | y :: r => by
  unfold Aj
  rw [List.map_cons, Hg]
  split
  ·rw [List.map_cons]
   congr 1
   rw [← List.map_cons]
   generalize y :: r = m
   induction m with
   | nil => rfl
   | cons z t ih =>
    rw [List.filter_cons, List.map_cons, List.filter_cons]
    split <;> simp [ih]
  rw [List.map_cons, Eb key x r]
theorem Ie {k : Int} : ∀ {l : List Int}, (∀ y ∈ l, k < y) → l.filter (fun z => !(z == k)) = l
 | [], _ => rfl
 | y :: r, h => by
  have h1 := h y (List.mem_cons_self ..)
  rw [List.filter_cons, show (!(y == k)) = true by simp; omega, if_pos rfl, Ie (fun z hz => h z (List.mem_cons_of_mem _ hz))]
theorem M0 {k : Int} : ∀ {l : List Int}, l.Pairwise (· < ·) → k ∈ l → Hg k l = l
 | [], _, h => by cases h
 | y :: r, hs, h => by
  rw [List.pairwise_cons] at hs
  unfold Hg
  rcases List.mem_cons.1 h with rfl | h
  ·rw [if_pos (Int.le_refl _), List.filter_cons]
   simp only [beq_self_eq_true, Bool.not_true, Bool.false_eq_true, if_false]
   rw [Ie hs.1]
  have := hs.1 k h
  rw [if_neg (by omega), M0 hs.2 h]
theorem KI {k x : Int} : ∀ {l : List Int}, x ∈ Hg k l → x = k ∨ x ∈ l
 | [], h => by simp [Hg] at h; exact .inl h
 | y :: r, h => by
  unfold Hg at h
  split at h
  ·rcases List.mem_cons.1 h with h | h
   ·exact .inl h
   exact .inr (List.mem_filter.1 h).1
  rcases List.mem_cons.1 h with h | h
  ·exact .inr (h ▸ List.mem_cons_self ..)
  rcases KI h with h | h
  ·exact .inl h
  exact .inr (List.mem_cons_of_mem _ h)
theorem EP {k : Int} : ∀ {l : List Int}, l.Pairwise (· < ·) → (Hg k l).Pairwise (· < ·)
 | [], _ => by simp [Hg]
 | y :: r, hs => by
  rw [List.pairwise_cons] at hs
  unfold Hg
  split
  ·rename_i hk
   rw [List.pairwise_cons]
   refine ⟨fun z hz => ?_, List.Pairwise.sublist List.filter_sublist (List.pairwise_cons.2 hs)⟩
   obtain ⟨h1, h2⟩ := List.mem_filter.1 hz
   have h2' : z ≠ k := by simpa using h2
   rcases List.mem_cons.1 h1 with rfl | h1
   ·omega
   have := hs.1 z h1; omega
  rename_i hk
  rw [List.pairwise_cons]
  refine ⟨fun z hz => ?_, EP hs.2⟩
  rcases KI hz with rfl | hz
  ·omega
  exact hs.1 z hz
structure Evs (s : Ab) : Prop where
 keys : s.evals.map EvalD.job = s.jobs.map Am.id
 sorted : (s.jobs.map Am.id).Pairwise (· < ·)
 bound : ∀ e ∈ s.evals, 1 ≤ e.index ∧ e.index ≤ s.index
 own : ∀ a ∈ s.allocs, a.job ∈ s.jobs.map Am.id
def F7 (s : Ab) (job : Int) : Prop := ∃ e ∈ s.evals, e.job = job ∧ e.state = 1 ∧ e.index = s.index
structure Part (s t : Ab) : Prop where
 jobs : t.jobs.map Am.id = s.jobs.map Am.id
 index : t.index = s.index
 evals : s.evals.map EvalD.job = s.jobs.map Am.id → (s.jobs.map Am.id).Pairwise (· < ·) → t.evals.map EvalD.job = s.evals.map EvalD.job
 bound : 1 ≤ s.index → (∀ e ∈ s.evals, 1 ≤ e.index ∧ e.index ≤ s.index) → ∀ e ∈ t.evals, 1 ≤ e.index ∧ e.index ≤ s.index
 fresh : ∀ j, F7 s j → F7 t j
theorem Part.refl (s : Ab) : Part s s := ⟨rfl, rfl, fun _ _ => rfl, fun _ h => h, fun _ h => h⟩
theorem Part.trans {s t u : Ab} (h : Part s t) (k : Part t u) : Part s u :=
 ⟨k.jobs.trans h.jobs, k.index.trans h.index, fun a b => (k.evals (by rw [h.evals a b, h.jobs]; exact a) (by rw [h.jobs]; exact b)).trans (h.evals a b),
  fun a b => by have := k.bound (by rw [h.index]; exact a) (by rw [h.index]; exact h.bound a b); rw [h.index] at this; exact this, fun j e => k.fresh j (h.fresh j e)⟩
theorem Gl {α : Type} {f : Ab → α → Ab} (h : ∀ s a, Part s (f s a)) : ∀ (l : List α) (s : Ab), Part s (l.foldl f s)
 | [], s => Part.refl s
 | a :: r, s => (h s a).trans (Gl h r (f s a))
theorem Part.same {s t : Ab} (h1 : t.jobs.map Am.id = s.jobs.map Am.id) (h2 : t.index = s.index) (h3 : t.evals = s.evals) : Part s t :=
 ⟨h1, h2, fun _ _ => by rw [h3], fun _ b => by rw [h3]; exact b, fun j ⟨e, a, b⟩ => ⟨e, by rw [h3]; exact a, by rw [h2]; exact b⟩⟩
theorem Part.pre {s t u : Ab} (h1 : t.jobs.map Am.id = s.jobs.map Am.id) (h2 : t.index = s.index) (h3 : t.evals = s.evals) (k : Part t u) : Part s u := (Part.same h1 h2 h3).trans k
theorem Part.post {s t u : Ab} (k : Part s t) (h1 : u.jobs.map Am.id = t.jobs.map Am.id) (h2 : u.index = t.index) (h3 : u.evals = t.evals) : Part s u := k.trans (Part.same h1 h2 h3)
theorem Fg {s : Ab} {x : Int} {j : Am} (h : AV s x = some j) : j.id = x ∧ j ∈ s.jobs := by
 have := List.find?_some h
 exact ⟨by simpa using this, List.mem_of_find?_eq_some h⟩
theorem EW {α : Type} (key : α → Int) (x : α) : ∀ l : List α, x ∈ Aj key x l
 | [] => by simp [Aj]
 | y :: r => by
  unfold Aj
  split
  ·exact List.mem_cons_self ..
  exact List.mem_cons_of_mem _ (EW key x r)
theorem Gn {α : Type} (key : α → Int) (x : α) : ∀ (l : List α) {y : α}, y ∈ l → key y ≠ key x → y ∈ Aj key x l
 | [], _, h, _ => by cases h
 | z :: r, y, h, hk => by
  unfold Aj
  split
  ·exact List.mem_cons_of_mem _ (List.mem_filter.2 ⟨h, by simpa using hk⟩)
  rcases List.mem_cons.1 h with rfl | h
  ·exact List.mem_cons_self ..
  exact List.mem_cons_of_mem _ (Gn key x r h hk)
theorem Dr (s : Ab) (job : Int) : Part s (eval s job) := by
 unfold eval
 split
 ·exact Part.refl s
 rename_i j hj
 obtain ⟨hid, hm⟩ := Fg hj
 refine ⟨rfl, rfl, fun a b => ?_, fun a b e he => ?_, fun k ⟨e, h1, h2, h3, h4⟩ => ?_⟩
 ·rw [Eb, a, M0 b (List.mem_map.2 ⟨j, hm, hid⟩)]
 ·rcases putL_mem he with rfl | ⟨he, _⟩
  ·exact ⟨a, Int.le_refl _⟩
  exact b e he
 by_cases hk : k = job
 ·subst hk
  exact ⟨_, EW _ _ _, rfl, rfl, rfl⟩
 exact ⟨e, Gn _ _ _ h1 (by simp only; omega), h2, h3, h4⟩
theorem Ib {s : Ab} {job : Int} (h : job ∈ s.jobs.map Am.id) : F7 (eval s job) job := by
 unfold eval
 cases hj : AV s job with
 | none =>
  obtain ⟨j, hm, e⟩ := List.mem_map.1 h
  have := List.find?_eq_none.1 hj j hm
  simp [e] at this
 | some j => exact ⟨_, EW _ _ _, rfl, rfl, rfl⟩
theorem Ns (s : Ab) : Part s (came s) := by
 have hk : ∀ e, (Bp s.index e).job = e.job := fun e => by unfold Bp; split <;> rfl
 refine ⟨rfl, rfl, fun _ _ => ?_, fun a b e he => ?_, fun k ⟨e, h1, h2, h3, h4⟩ => ?_⟩
 ·rw [came, List.map_map]
  exact List.map_congr_left (fun e _ => hk e)
 ·obtain ⟨d, hd, rfl⟩ := List.mem_map.1 he
  unfold Bp
  split
  ·exact ⟨a, Int.le_refl _⟩
  exact b d hd
 refine ⟨Bp s.index e, List.mem_map_of_mem h1, by rw [hk]; exact h2, ?_, ?_⟩
 ·unfold Bp; split; rfl; exact h3
 unfold Bp; split; rfl; exact h4
theorem K9 (s : Ab) : Part s (system s) := Gl (fun t j => by split; exact Dr t j.id; exact Part.refl t) s.jobs s
theorem NR (s : Ab) (i : Nat) : Part s (AF s i) := by
 unfold AF
 split
 ·exact Part.refl s
 split
 ·exact Part.refl s
 split <;> exact Part.same rfl rfl rfl
theorem KG (s : Ab) : Part s (looked s) := Gl NR _ s
theorem Lg (n : NodD) (z : Ab × Bool) (r : Int × Int) : Part z.1 (report n z r).1 := by
 unfold report
 split
 ·exact Part.refl _
 split
 ·exact Part.refl _
 simp only
 split
 ·refine Part.pre ?_ ?_ ?_ (Dr _ _) <;> rfl
 split
 ·exact Part.same rfl rfl rfl
 split
 ·exact Part.same rfl rfl rfl
 refine Part.post (t := eval { z.1 with allocs := turn1 (fun a => a.id == r.1) (fun a => { a with state := r.2 }) z.1.allocs } _) ?_ rfl rfl rfl
 refine Part.pre ?_ ?_ ?_ (Dr _ _) <;> rfl
end Fsm
end
end Go.Proofs.YtccekmeifanipaaGreat
