/- General words on worlds, over any program: what a step leaves as it was ('Ext'), a slice that reads as a list ('Sl'), a map that reads as a list of pairs ('MapIs'); no program is named. -/
import Derived.WalkKit
import Derived.WalkSpells
import Derived.WalkLawsBesides
import Derived.Maps.OwnSet
import Derived.Lib.Hide
import Derived.BigQuiet
import Derived.Deep.QuietTactic
import Derived.RegionTactic
import Derived.Deep.Draws
import Derived.DeepKeys4
namespace Go.Proofs.YtgjabfpkbcdkcaaGreatDoor
set_option linter.unusedVariables false
open Go.RowKit
open Go.Maps (Keyed)
open Go.ChangeMaps (setBlock heap_setBlock_same heap_setBlock_other map_eraseIdx)

/-! ### Ext: all blocks of w but those of S are as they were -/
structure Ext (S : Nat → Prop) (w w' : World) : Prop where
  os : w'.os = w.os
  tape : w'.tape = w.tape
  output : w'.output = w.output
  size : w.heap.size ≤ w'.heap.size
  block : ∀ k, k < w.heap.size → ¬ S k → w'.heap[k]? = w.heap[k]?
abbrev Nothing : Nat → Prop := fun _ => False

section
variable {S S' : Nat → Prop} {w w' w'' : World}
theorem Ext.refl (S : Nat → Prop) (w : World) : Ext S w w := ⟨rfl, rfl, rfl, Nat.le_refl _, fun _ _ _ => rfl⟩
theorem Ext.trans (h : Ext S w w') (k : Ext S' w' w'') (hs : ∀ b, b < w.heap.size → S' b → S b) : Ext S w w'' :=
  ⟨k.os.trans h.os, k.tape.trans h.tape, k.output.trans h.output, Nat.le_trans h.size k.size,
    fun b hb hn => (k.block b (Nat.lt_of_lt_of_le hb h.size) (fun e => hn (hs b hb e))).trans (h.block b hb hn)⟩
theorem Ext.mono (h : Ext S w w') (hs : ∀ b, b < w.heap.size → S b → S' b) : Ext S' w w' :=
  ⟨h.os, h.tape, h.output, h.size, fun b hb hn => h.block b hb (fun e => hn (hs b hb e))⟩
theorem Ext.drew (h : Ext S w w') : Ext S w w'.drew := ⟨h.os, h.tape, h.output, h.size, h.block⟩
theorem Ext.drewN (h : Ext S w w') (n : Nat) : Ext S w (w'.drewN n) := ⟨h.os, h.tape, h.output, h.size, h.block⟩
theorem Ext.alloc (h : Ext S w w') (o : Obj) : Ext S w (w'.alloc o) :=
  h.trans (S' := Nothing) ⟨rfl, rfl, rfl, by simp, fun k hk _ => Below.heap_alloc _ _ _ hk⟩ (fun _ _ e => e.elim)
theorem Ext.setCell (h : Ext S w w') {p : Addr} (hp : w.heap.size ≤ p.block ∨ S p.block) (u : Value) : Ext S w (w'.setCell p u) :=
  h.trans (S' := fun k => k = p.block) ⟨rfl, rfl, rfl, by simp [World.setCell], fun k _ hn => Below.heap_setCell _ _ _ _ hn⟩
    (fun b hb e => by subst e; rcases hp with hp | hp; omega; exact hp)
theorem Ext.set1 (w : World) (g i : Nat) (u : Value) : Ext (fun b => b = g) w (w.setCell ⟨g, i, none⟩ u) := Ext.setCell (Ext.refl (fun b => b = g) w) (p := ⟨g, i, none⟩) (.inr rfl) u
theorem Ext.of_below {B : Nat} (h : Below B w w') (hB : w.heap.size ≤ B) : Ext S w w' := ⟨h.os, h.tape, h.output, h.size, fun k hk _ => h.block k (by omega)⟩
theorem Ext.of_below' (h : Below w.heap.size w w') : Ext S w w' := Ext.of_below h (Nat.le_refl _)
theorem Ext.below (h : Ext S w w') (hs : ∀ b, b < w.heap.size → ¬ S b) : Below w.heap.size w w' := ⟨h.os, h.tape, h.output, h.size, fun k hk => h.block k hk (hs k hk)⟩
theorem Ext.below0 (h : Ext Nothing w w') : Below w.heap.size w w' := h.below fun _ _ e => e
theorem Ext.of_grown {row : Option Nat} (h : w.grownBy w' row) (hr : ∀ g, row = some g → S g) : Ext S w w' :=
  ⟨h.os, h.tape, h.output, h.size, fun k hk hn => h.block k hk (fun e => hn (hr k e.symm))⟩
theorem Ext.grown {row : Option Nat} (h : Ext S w w') (hg : w'.grownBy w'' row) (hr : ∀ g, row = some g → w.heap.size ≤ g ∨ S g) : Ext S w w'' :=
  h.trans (S' := fun g => row = some g) (Ext.of_grown hg (fun g e => e)) (fun b hb e => by rcases hr b e with hp | hp; omega; exact hp)
theorem Ext.heap (h : Ext S w w') {b : Nat} {o : Obj} (hb : w.heap[b]? = some o) (hn : ¬ S b) : w'.heap[b]? = some o := by
  rw [h.block b (Array.getElem?_eq_some_iff.1 hb).1 hn]; exact hb
theorem Ext.cell (h : Ext S w w') {p : Addr} {v : Value} (hc : w.cell? p = some v) (hn : ¬ S p.block) : w'.cell? p = some v := by
  rw [World.cell?_of_block (h.block p.block (World.block_lt_of_cell? w p hc) hn)]; exact hc
end

/-! ### a block that is known whole -/
abbrev Blk (w : World) (g : Nat) (t : TypeId) (cs : Array Value) : Prop := w.heap[g]? = some (.cells cs t (0, 0))
section
variable {S : Nat → Prop} {w w' : World} {g : Nat} {t : TypeId} {cs : Array Value}
theorem Blk.lt (h : Blk w g t cs) : g < w.heap.size := (Array.getElem?_eq_some_iff.1 h).1
theorem Blk.cell (h : Blk w g t cs) (i : Nat) : w.cell? ⟨g, i, none⟩ = cs[i]? := cell_of_row w g i cs t (0, 0) h
theorem Blk.frozen (h : Blk w g t cs) (i : Nat) : w.frozen? ⟨g, i, none⟩ = false := by simp [World.frozen?, h]
theorem Blk.new (w : World) (t : TypeId) (cs : Array Value) : Blk (w.alloc (.cells cs t)) w.heap.size t cs := heap_alloc_new w _
theorem Blk.new' (w : World) (t : TypeId) (cs : Array Value) {n : Nat} (hn : n = w.heap.size) : Blk (w.alloc (.cells cs t)) n t cs := by subst hn; exact heap_alloc_new w _
theorem Blk.ext {S : Nat → Prop} (h : Blk w g t cs) (he : Ext S w w') (hn : ¬ S g) : Blk w' g t cs := he.heap h hn
theorem Blk.set_ (h : Blk w g t cs) (i : Nat) (u : Value) : Blk (w.setCell ⟨g, i, none⟩ u) g t (cs.setIfInBounds i u) := by
  show (w.setCell ⟨g, i, none⟩ u).heap[g]? = _
  simp only [World.setCell, Array.getElem?_modify, if_true, show w.heap[g]? = _ from h]
  rfl
theorem Blk.ne_of_cell (h : Blk w g t cs) {b o : Nat} {u : Value} (hc : w.cell? ⟨b, o, none⟩ = some u) (hu : ∀ i : Nat, cs[i]? ≠ some u) : b ≠ g := by
  rintro rfl
  rw [h.cell] at hc
  exact hu _ hc
end

/-! ### Sl: a slice value that reads as a list of elements, each so many cells -/
def Sl (w : World) (sz : Nat) (A : Option Addr) (n : Nat) (xs : List (List Value)) : Prop :=
  n = xs.length ∧ ∀ i cs, xs[i]? = some cs → ∃ b off, A = some ⟨b, off, none⟩ ∧ cs.length = sz ∧ ∀ j u, cs[j]? = some u → w.cell? ⟨b, off + i * sz + j, none⟩ = some u
section
variable {S : Nat → Prop} {w w' : World} {sz n : Nat} {A : Option Addr} {xs : List (List Value)}
theorem Sl.nil (w : World) (sz : Nat) (A : Option Addr) : Sl w sz A 0 [] := ⟨rfl, fun i cs h => by simp at h⟩
theorem Sl.keep (h : Sl w sz A n xs) (hk : ∀ b o u, A.map (·.block) = some b → w.cell? ⟨b, o, none⟩ = some u → w'.cell? ⟨b, o, none⟩ = some u) : Sl w' sz A n xs :=
  ⟨h.1, fun i cs hi => by
    obtain ⟨b, off, rfl, hl, hc⟩ := h.2 i cs hi
    exact ⟨b, off, rfl, hl, fun j u hu => hk b _ u rfl (hc j u hu)⟩⟩
theorem Sl.ext (h : Sl w sz A n xs) (he : Ext S w w') (hn : ∀ b, A.map (·.block) = some b → xs ≠ [] → ¬ S b) : Sl w' sz A n xs :=
  ⟨h.1, fun i cs hi => by
    obtain ⟨b, off, rfl, hl, hc⟩ := h.2 i cs hi
    exact ⟨b, off, rfl, hl, fun j u hu => he.cell (hc j u hu) (hn b rfl (by rintro rfl; simp at hi))⟩⟩
theorem Sl.ext0 (h : Sl w sz A n xs) (he : Ext Nothing w w') : Sl w' sz A n xs := h.ext he fun _ _ _ e => e
theorem Sl.below (h : Sl w sz A n xs) (he : Below w.heap.size w w') : Sl w' sz A n xs := h.ext0 (Ext.of_below' he)
theorem Sl.at_ (h : Sl w sz A n xs) {k : Nat} (hk : k < n) : ∃ (hx : k < xs.length), ∃ b off, A = some ⟨b, off, none⟩ ∧ xs[k].length = sz ∧ ∀ j u, xs[k][j]? = some u → w.cell? ⟨b, off + k * sz + j, none⟩ = some u := by
  have hx : k < xs.length := by rw [← h.1]; exact hk
  obtain ⟨b, off, hA, hl, hc⟩ := h.2 k xs[k] (List.getElem?_eq_getElem hx)
  exact ⟨hx, b, off, hA, hl, hc⟩
theorem Sl.get {α : Type} {f : α → List Value} {xs : List α} (h : Sl w sz A n (xs.map f)) (he : Ext Nothing w w') {k : Nat} (hk : k < n) :
    ∃ (hx : k < xs.length), ∃ b off, A = some ⟨b, off, none⟩ ∧ (∀ j u, (f xs[k])[j]? = some u → w'.cell? ⟨b, off + k * sz + j, none⟩ = some u) := by
  obtain ⟨hx, b, off, hA, _, hc⟩ := h.at_ hk
  have hx' : k < xs.length := by simpa using hx
  exact ⟨hx', b, off, hA, fun j u hu => he.cell (hc j u (by simpa using hu)) (fun e => e)⟩
theorem Sl.len {α : Type} {f : α → List Value} {xs : List α} (h : Sl w sz A n (xs.map f)) : n = xs.length := by simpa using h.1
/-- no cell of such a slice is a cell of a block whose cells are all others -/
theorem Sl.ne (h : Sl w sz A n xs) {g : Nat} {t : TypeId} {cs : Array Value} (hg : Blk w g t cs) (hsz : 0 < sz) (hu : ∀ x ∈ xs, ∀ u ∈ x, ∀ i : Nat, cs[i]? ≠ some u) :
    ∀ b, A.map (·.block) = some b → xs ≠ [] → b ≠ g := by
  intro b hb hne
  obtain ⟨x, r, rfl⟩ := List.exists_cons_of_ne_nil hne
  obtain ⟨b', off, rfl, hl, hc⟩ := h.2 0 x rfl
  obtain rfl : b' = b := by simpa using hb
  obtain ⟨u, r', rfl⟩ := List.exists_cons_of_ne_nil (l := x) (by rintro rfl; simp at hl; omega)
  exact hg.ne_of_cell (hc 0 u rfl) (hu _ (List.mem_cons_self ..) u (List.mem_cons_self ..))
end

theorem foldl_take {α β : Type} (f : β → α → β) (i : β) (l : List α) (k : Nat) (h : k < l.length) : (l.take (k + 1)).foldl f i = f ((l.take k).foldl f i) l[k] := by
  rw [List.take_add_one, List.getElem?_eq_getElem h, List.foldl_append]; rfl
theorem foldl_all {α β : Type} (f : β → α → β) (i : β) (l : List α) (k : Nat) (h : l.length ≤ k) : (l.take k).foldl f i = l.foldl f i := by rw [List.take_of_length_le h]
theorem Sl.ne1 {S : Nat → Prop} {w w' : World} {sz n : Nat} {A : Option Addr} {xs : List (List Value)} (h : Sl w sz A n xs) {g : Nat} {t : TypeId} {cs : Array Value} (hg : Blk w g t cs) (hsz : 0 < sz) (hu : ∀ x ∈ xs, ∀ u, x[0]? = some u → ∀ i : Nat, cs[i]? ≠ some u) :
    ∀ b, A.map (·.block) = some b → xs ≠ [] → b ≠ g := by
  intro b hb hne
  obtain ⟨x, r, rfl⟩ := List.exists_cons_of_ne_nil hne
  obtain ⟨b', off, rfl, hl, hc⟩ := h.2 0 x rfl
  obtain rfl : b' = b := by simpa using hb
  have h0 : x[0]? = some x[0] := List.getElem?_eq_getElem (by omega)
  exact hg.ne_of_cell (hc 0 _ h0) (hu _ (List.mem_cons_self ..) _ h0)

/-! ### lists of fixed width -/
theorem flat_len {α : Type} {f : α → List Value} {sz : Nat} (hf : ∀ x, (f x).length = sz) : ∀ xs : List α, (xs.flatMap f).length = xs.length * sz
  | [] => by simp
  | x :: r => by rw [List.flatMap_cons, List.length_append, hf, flat_len hf r, List.length_cons, Nat.add_mul]; omega
theorem flat_at {α : Type} {f : α → List Value} {sz : Nat} (hf : ∀ x, (f x).length = sz) : ∀ (xs : List α) (i : Nat) (x : α), xs[i]? = some x → ∀ j u, (f x)[j]? = some u → (xs.flatMap f)[i * sz + j]? = some u
  | [], i, x, h => by simp at h
  | y :: r, 0, x, h => by
    simp at h; subst h
    intro j u hu
    rw [List.flatMap_cons, Nat.zero_mul, Nat.zero_add, List.getElem?_append_left (List.getElem?_eq_some_iff.1 hu).1]; exact hu
  | y :: r, i + 1, x, h => by
    intro j u hu
    have := flat_at hf r i x (by simpa using h) j u hu
    rw [List.flatMap_cons, List.getElem?_append_right (by rw [hf, Nat.add_mul]; omega), hf, show (i + 1) * sz + j - sz = i * sz + j from by rw [Nat.add_mul]; omega]
    exact this
/-- a row of the call's own reads as the list -/
theorem Sl.of_own {α : Type} {f : α → List Value} {w : World} {base : Nat} {e : TypeId} {sz n : Nat} {A : Option Addr} {cap : Nat} {xs : List α} (hf : ∀ x, (f x).length = sz)
    (h : w.ownsRow base e sz (.slice A n cap) n (xs.flatMap f)) (hn : n = xs.length) : Sl w sz A n (xs.map f) := by
  refine ⟨by simpa using hn, fun i cs hi => ?_⟩
  rw [List.getElem?_map] at hi
  obtain ⟨x, hx, rfl⟩ := Option.map_eq_some_iff.1 hi
  rcases h.2 with ⟨_, rfl⟩ | ⟨g, cap', cur, hv, _, hg, _, _, _, ht⟩
  · have : xs = [] := List.eq_nil_of_length_eq_zero hn.symm
    subst this
    simp at hx
  · injection hv with hA _ _
    subst hA
    refine ⟨g, 0, rfl, hf x, fun j u hu => ?_⟩
    have := flat_at hf xs i x hx j u hu
    rw [← ht, List.getElem?_take] at this
    split at this
    · rw [cell_of_row w g _ cur e (0, 0) hg, Nat.zero_add]; simpa using this
    · simp at this

theorem Sl.of_blk {α : Type} {f : α → List Value} {w : World} {g t sz n : Nat} {cs : Array Value} (xs : List α) (hf : ∀ x, (f x).length = sz) (h : Blk w g t cs) (hc : cs.toList = xs.flatMap f) (hn : n = xs.length) : Sl w sz (some ⟨g, 0, none⟩) n (xs.map f) := by
  refine ⟨by simpa using hn, fun i c hi => ?_⟩
  rw [List.getElem?_map] at hi
  obtain ⟨x, hx, rfl⟩ := Option.map_eq_some_iff.1 hi
  refine ⟨g, 0, rfl, hf x, fun j u hu => ?_⟩
  have h1 := flat_at hf xs i x hx j u hu
  rw [← hc, Array.getElem?_toList] at h1
  rw [Nat.zero_add, h.cell]; exact h1
theorem ret_int {k : IntKind} {a b : Int} (h : a = b) : Ending.returned (.int k a) = Ending.returned (.int k b) := by rw [h]

/-! ### maps as lists of pairs, in the order of their making -/
section
variable {κ ν : Type} [DecidableEq κ]
def aget (k : κ) : List (κ × ν) → Option ν
  | [] => none
  | p :: r => if p.1 = k then some p.2 else aget k r
def aput (k : κ) (v : ν) : List (κ × ν) → List (κ × ν)
  | [] => [(k, v)]
  | p :: r => if p.1 = k then (k, v) :: r else p :: aput k v r
def adel (k : κ) : List (κ × ν) → List (κ × ν)
  | [] => []
  | p :: r => if p.1 = k then r else p :: adel k r
theorem aget_none {k : κ} : ∀ {L : List (κ × ν)}, (∀ p ∈ L, p.1 ≠ k) → aget k L = none
  | [], _ => rfl
  | p :: r, h => by rw [aget, if_neg (h p (List.mem_cons_self ..)), aget_none fun q hq => h q (List.mem_cons_of_mem _ hq)]
theorem aput_new {k : κ} {v : ν} : ∀ {L : List (κ × ν)}, (∀ p ∈ L, p.1 ≠ k) → aput k v L = L ++ [(k, v)]
  | [], _ => rfl
  | p :: r, h => by rw [aput, if_neg (h p (List.mem_cons_self ..)), aput_new fun q hq => h q (List.mem_cons_of_mem _ hq)]; rfl
theorem aget_none_iff {k : κ} : ∀ {L : List (κ × ν)}, aget k L = none → ∀ p ∈ L, p.1 ≠ k
  | [], _, p, hp => by simp at hp
  | q :: r, h, p, hp => by
    rw [aget] at h
    by_cases e : q.1 = k
    · rw [if_pos e] at h; cases h
    · rw [if_neg e] at h
      rcases List.mem_cons.1 hp with rfl | hp
      · exact e
      · exact aget_none_iff h p hp
theorem aput_of_none {k : κ} {v : ν} {L : List (κ × ν)} (h : aget k L = none) : aput k v L = L ++ [(k, v)] := aput_new (aget_none_iff h)
theorem adel_none {k : κ} : ∀ {L : List (κ × ν)}, (∀ p ∈ L, p.1 ≠ k) → adel k L = L
  | [], _ => rfl
  | p :: r, h => by rw [adel, if_neg (h p (List.mem_cons_self ..)), adel_none fun q hq => h q (List.mem_cons_of_mem _ hq)]
theorem aget_at {k : κ} {v : ν} : ∀ {L : List (κ × ν)} {j : Nat}, (L.map (·.1)).Nodup → L[j]? = some (k, v) → aget k L = some v
  | [], j, _, h => by simp at h
  | p :: r, 0, _, h => by simp at h; subst h; simp [aget]
  | p :: r, j + 1, hd, h => by
    rw [List.map_cons, List.nodup_cons] at hd
    have hj : r[j]? = some (k, v) := by simpa using h
    rw [aget, if_neg, aget_at hd.2 hj]
    intro e
    exact hd.1 (e ▸ List.mem_map.2 ⟨_, List.mem_of_getElem? hj, rfl⟩)
theorem aput_at {k : κ} {v u : ν} : ∀ {L : List (κ × ν)} {j : Nat}, (L.map (·.1)).Nodup → L[j]? = some (k, v) → aput k u L = L.set j (k, u)
  | [], j, _, h => by simp at h
  | p :: r, 0, _, h => by simp at h; subst h; simp [aput]
  | p :: r, j + 1, hd, h => by
    rw [List.map_cons, List.nodup_cons] at hd
    have hj : r[j]? = some (k, v) := by simpa using h
    rw [aput, if_neg, aput_at hd.2 hj]; rfl
    intro e
    exact hd.1 (e ▸ List.mem_map.2 ⟨_, List.mem_of_getElem? hj, rfl⟩)
theorem adel_at {k : κ} {v : ν} : ∀ {L : List (κ × ν)} {j : Nat}, (L.map (·.1)).Nodup → L[j]? = some (k, v) → adel k L = L.eraseIdx j
  | [], j, _, h => by simp at h
  | p :: r, 0, _, h => by simp at h; subst h; simp [adel]
  | p :: r, j + 1, hd, h => by
    rw [List.map_cons, List.nodup_cons] at hd
    have hj : r[j]? = some (k, v) := by simpa using h
    rw [adel, if_neg, adel_at hd.2 hj]; rfl
    intro e
    exact hd.1 (e ▸ List.mem_map.2 ⟨_, List.mem_of_getElem? hj, rfl⟩)
theorem aput_keys (k : κ) (v : ν) : ∀ L : List (κ × ν), (aput k v L).map (·.1) = if k ∈ L.map (·.1) then L.map (·.1) else L.map (·.1) ++ [k]
  | [] => by simp [aput]
  | p :: r => by
    rw [aput]
    by_cases e : p.1 = k
    · simp [e]
    · rw [if_neg e, List.map_cons, aput_keys k v r]
      have e' : k ≠ p.1 := fun h => e h.symm
      by_cases hm : k ∈ r.map (·.1)
      · rw [if_pos hm, if_pos (by simp only [List.map_cons, List.mem_cons]; exact .inr hm)]; rfl
      · rw [if_neg hm, if_neg (by simp only [List.map_cons, List.mem_cons, not_or]; exact ⟨e', hm⟩)]; rfl
theorem aput_nodup (k : κ) (v : ν) {L : List (κ × ν)} (h : (L.map (·.1)).Nodup) : ((aput k v L).map (·.1)).Nodup := by
  rw [aput_keys]
  split
  · exact h
  · rename_i hm
    exact List.nodup_append.2 ⟨h, by simp, fun a ha b hb => by simp at hb; subst hb; exact fun e => hm (e ▸ ha)⟩
theorem adel_sub (k : κ) : ∀ L : List (κ × ν), (adel k L).Sublist L
  | [] => .slnil
  | p :: r => by rw [adel]; split; exact List.sublist_cons_self _ _; exact (adel_sub k r).cons_cons _
theorem aget_aput_same (k : κ) (v : ν) : ∀ L : List (κ × ν), aget k (aput k v L) = some v
  | [] => by simp [aput, aget]
  | p :: r => by
    rw [aput]
    by_cases e : p.1 = k
    · simp [e, aget]
    · rw [if_neg e, aget, if_neg e]; exact aget_aput_same k v r
theorem aget_aput_other {k j : κ} (h : j ≠ k) (v : ν) : ∀ L : List (κ × ν), aget j (aput k v L) = aget j L
  | [] => by simp [aput, aget, Ne.symm h]
  | p :: r => by
    rw [aput]
    by_cases e : p.1 = k
    · rw [if_pos e, aget, aget, e, if_neg (Ne.symm h), if_neg (Ne.symm h)]
    · rw [if_neg e, aget, aget, aget_aput_other h v r]
end

/-! ### what a key reads as, field by field -/
theorem keyLits_int {P : Program} {d t : Nat} {q : IntKind} {n : Int} (ht : P.underlying t = some (.int q)) (hw : (Lit.int q n).wf = true) : P.keyLits (d + 1) t [.int q n] = some [.int q n] := by
  simp [Program.keyLits, ht, hw]
theorem keyLits_bool {P : Program} {d t : Nat} {b : Bool} (ht : P.underlying t = some .bool) : P.keyLits (d + 1) t [.bool b] = some [.bool b] := by
  simp [Program.keyLits, ht]
theorem keyLits_struct {P : Program} {d t : Nat} {fs : Array Field} {cs : List Value} (ht : P.underlying t = some (.struct fs)) (hl : cs.length = P.cellsOf t) (hn : fs.all (·.name != "_") = true) :
    P.keyLits (d + 1) t cs = (fs.toList.mapM fun f => P.keyLits d f.type ((cs.drop f.offset).take (P.cellsOf f.type))).map List.flatten := by
  rw [Program.keyLits.eq_def]
  simp only [ht]
  rw [if_pos ⟨hl, hn⟩]

/-- block b is a map; its entries, in the order of their making, are L; each key is one, no key twice -/
def MapIs {κ ν : Type} (P : Program) (K : TypeId) (eK : κ → Value) (eV : ν → Value) (w : World) (b : Nat) (L : List (κ × ν)) : Prop :=
  ∃ es clock, w.heap[b]? = some (.map es clock) ∧ es.toList.map (fun e => (e.key, e.val)) = L.map (fun p => (eK p.1, eV p.2)) ∧ (∀ p ∈ L, ∃ l, keyOf P K (eK p.1) = some l) ∧ (L.map (·.1)).Nodup

section
variable {κ ν : Type} {P : Program} {K : TypeId} {eK : κ → Value} {eV : ν → Value} {w w' : World} {b : Nat} {L : List (κ × ν)} {S : Nat → Prop}
theorem MapIs.ext (h : MapIs P K eK eV w b L) (he : Ext S w w') (hn : ¬ S b) : MapIs P K eK eV w' b L := by
  obtain ⟨es, clock, hb, r⟩ := h
  exact ⟨es, clock, he.heap hb hn, r⟩
theorem MapIs.lt (h : MapIs P K eK eV w b L) : b < w.heap.size := by
  obtain ⟨es, clock, hb, r⟩ := h
  exact (Array.getElem?_eq_some_iff.1 hb).1
theorem MapIs.nodup (h : MapIs P K eK eV w b L) : (L.map (·.1)).Nodup := h.choose_spec.choose_spec.2.2.2
theorem MapIs.ne_blk (h : MapIs P K eK eV w b L) {g : Nat} {t : TypeId} {cs : Array Value} (hg : Blk w g t cs) : b ≠ g := by
  rintro rfl
  obtain ⟨es, clock, hb, r⟩ := h
  have hg' : w.heap[b]? = some (.cells cs t (0, 0)) := hg
  rw [hb] at hg'
  simp at hg'
theorem MapIs.new (w : World) : MapIs P K eK eV (w.alloc (.map #[] 0)) w.heap.size ([] : List (κ × ν)) :=
  ⟨#[], 0, heap_alloc_new w _, by simp, by simp, by simp⟩
theorem MapIs.at_ {es : Array MapEntry} (he : es.toList.map (fun e => (e.key, e.val)) = L.map (fun p => (eK p.1, eV p.2))) {j : Nat} {e : MapEntry} (hj : es.toList[j]? = some e) :
    ∃ p, L[j]? = some p ∧ e.key = eK p.1 ∧ e.val = eV p.2 := by
  have h1 : (es.toList.map (fun e => (e.key, e.val)))[j]? = some (e.key, e.val) := by rw [List.getElem?_map, hj]; rfl
  rw [he, List.getElem?_map] at h1
  obtain ⟨p, hp, h2⟩ := Option.map_eq_some_iff.1 h1
  injection h2 with h2 h3
  exact ⟨p, hp, h2.symm, h3.symm⟩
/-- the look-up finds what the list has -/
theorem MapIs.find (KL : Keyed P K) (hinj : ∀ x y, eK x = eK y → x = y) {k : κ} {kl : Lit} (hk : keyOf P K (eK k) = some kl) {es : Array MapEntry}
    (he : es.toList.map (fun e => (e.key, e.val)) = L.map (fun p => (eK p.1, eV p.2))) (hl : ∀ p ∈ L, ∃ l, keyOf P K (eK p.1) = some l) (hd : (L.map (·.1)).Nodup) (w : World) :
    ((Instr.findKey K (eK k) es.toList).run P w = .ok none w ∧ (∀ p ∈ L, p.1 ≠ k)) ∨
    ∃ j v e, (Instr.findKey K (eK k) es.toList).run P w = .ok (some (j, eV v)) w ∧ L[j]? = some (k, v) ∧ es.toList[j]? = some e ∧ e.key = eK k ∧ e.val = eV v := by
  have hkeys : ∀ e ∈ es.toList, ∃ l, keyOf P K e.key = some l := by
    intro e hm
    obtain ⟨j, hj⟩ := List.getElem?_of_mem hm
    obtain ⟨p, hp, h1, _⟩ := MapIs.at_ he hj
    rw [h1]
    exact hl p (List.mem_of_getElem? hp)
  rcases KL.find w hk es.toList hkeys with ⟨h1, h2⟩ | ⟨j, e, h1, h2, h3⟩
  · refine .inl ⟨h1, fun p hp e => ?_⟩
    have hm : (eK p.1, eV p.2) ∈ es.toList.map (fun e => (e.key, e.val)) := by rw [he]; exact List.mem_map.2 ⟨p, hp, rfl⟩
    obtain ⟨x, hx, hxe⟩ := List.mem_map.1 hm
    injection hxe with h3 _
    exact h2 x hx (by rw [h3, e])
  · obtain ⟨p, hp, h4, h5⟩ := MapIs.at_ he h2
    have hpk : p.1 = k := hinj _ _ (by rw [← h4, h3])
    refine .inr ⟨j, p.2, e, by rw [h1, h5], ?_, h2, h3, h5⟩
    rw [hp, ← hpk]
variable [DecidableEq κ]
theorem MapIs.look (h : MapIs P K eK eV w b L) (KL : Keyed P K) (hinj : ∀ x y, eK x = eK y → x = y) {t e : TypeId} (ht : P.underlying t = some (.map K e)) {z : Value} (hz : (zeroValue e).run P w = .ok z w)
    {k : κ} {kl : Lit} (hk : keyOf P K (eK k) = some kl) (c : Bool) :
    (Instr.lookup t (.map (some b)) (eK k) c).run P w = .ok (if c then .tuple #[(aget k L).elim z eV, .bool (aget k L).isSome] else (aget k L).elim z eV) w := by
  obtain ⟨es, clock, hb, he, hl, hd⟩ := h
  rcases MapIs.find KL hinj hk he hl hd w with ⟨h1, h2⟩ | ⟨j, v, e, h1, h2, _⟩
  · simp [Instr.lookup, run_underlying ht, MapKept.run_getObj_map hb, KL.check w _ hk, h1, hz, aget_none h2, Result.andThen]
  · simp [Instr.lookup, run_underlying ht, MapKept.run_getObj_map hb, KL.check w _ hk, h1, aget_at hd h2, Result.andThen]
theorem MapIs.put (h : MapIs P K eK eV w b L) (KL : Keyed P K) (hinj : ∀ x y, eK x = eK y → x = y) {t e : TypeId} (ht : P.underlying t = some (.map K e))
    {k : κ} {kl : Lit} (hk : keyOf P K (eK k) = some kl) (v : ν) :
    ∃ w', (Instr.mapUpdate t (.map (some b)) (eK k) (eV v)).run P w = .ok () w' ∧ MapIs P K eK eV w' b (aput k v L) ∧ w.grownBy w' (some b) := by
  obtain ⟨es, clock, hb, he, hl, hd⟩ := h
  have hgb : ∀ o, w.grownBy (setBlock w b o) (some b) := fun o => ⟨rfl, rfl, rfl, by simp [setBlock], fun i _ hi => heap_setBlock_other hb _ (fun e => hi (by rw [e]))⟩
  rcases MapIs.find KL hinj hk he hl hd w with ⟨h1, h2⟩ | ⟨j, u, e0, h1, h2, h3, h4, h5⟩
  · refine ⟨setBlock w b (.map (es.push ⟨eK k, eV v, clock⟩) (clock + 1)), ?_, ⟨_, _, heap_setBlock_same hb _, ?_, ?_, aput_nodup k v hd⟩, hgb _⟩
    · simp [Instr.mapUpdate, run_underlying ht, MapKept.run_getObj_map hb, KL.check w _ hk, h1, MapKept.run_setObj_map _ hb, Result.andThen, setBlock]
    · rw [aput_new h2]; simp [he]
    · intro p hp
      rw [aput_new h2] at hp
      rcases List.mem_append.1 hp with hp | hp
      · exact hl p hp
      · simp at hp; subst hp; exact ⟨kl, hk⟩
  · have hj : es[j]? = some e0 := by simpa using h3
    refine ⟨setBlock w b (.map (es.modify j fun e => { e with key := eK k, val := eV v }) clock), ?_, ⟨_, _, heap_setBlock_same hb _, ?_, ?_, aput_nodup k v hd⟩, hgb _⟩
    · simp [Instr.mapUpdate, run_underlying ht, MapKept.run_getObj_map hb, KL.check w _ hk, h1, hj, h4, KL.stays w hk, MapKept.run_setObj_map _ hb, Result.andThen, setBlock]
    · rw [aput_at hd h2]
      apply List.ext_getElem?
      intro i
      have hi := congrArg (fun l : List (Value × Value) => l[i]?) he
      simp only [List.getElem?_map] at hi ⊢
      by_cases hij : j = i
      · subst hij
        rw [List.getElem?_set_self (List.getElem?_eq_some_iff.1 h2).1]
        simp [hj]
      · rw [List.getElem?_set_ne hij]
        simp only [Array.getElem?_toList, Array.getElem?_modify, if_neg hij] at hi ⊢
        exact hi
    · intro p hp
      rw [aput_at hd h2] at hp
      rcases List.mem_or_eq_of_mem_set hp with hp | rfl
      · exact hl p hp
      · exact ⟨kl, hk⟩
theorem MapIs.del (h : MapIs P K eK eV w b L) (KL : Keyed P K) (hinj : ∀ x y, eK x = eK y → x = y) {t e : TypeId} (ht : P.underlying t = some (.map K e))
    {k : κ} {kl : Lit} (hk : keyOf P K (eK k) = some kl) (ty : TypeId) :
    ∃ w', (Builtin.delete_ #[t, K] ty #[.map (some b), eK k]).run P w = .ok (.tuple #[]) w' ∧ MapIs P K eK eV w' b (adel k L) ∧ w.grownBy w' (some b) := by
  obtain ⟨es, clock, hb, he, hl, hd⟩ := h
  have hgb : ∀ o, w.grownBy (setBlock w b o) (some b) := fun o => ⟨rfl, rfl, rfl, by simp [setBlock], fun i _ hi => heap_setBlock_other hb _ (fun e => hi (by rw [e]))⟩
  have hsub := adel_sub k L
  rcases MapIs.find KL hinj hk he hl hd w with ⟨h1, h2⟩ | ⟨j, u, e0, h1, h2, h3, h4, h5⟩
  · refine ⟨setBlock w b (.map es clock), ?_, ⟨_, _, heap_setBlock_same hb _, ?_, fun p hp => hl p (hsub.subset hp), (hsub.map _).nodup hd⟩, hgb _⟩
    · simp [Builtin.delete_, run_underlying ht, MapKept.run_getObj_map hb, KL.check w _ hk, h1, MapKept.run_setObj_map _ hb, Result.andThen, setBlock]
    · rw [adel_none h2]; exact he
  · refine ⟨setBlock w b (.map (es.eraseIdxIfInBounds j) clock), ?_, ⟨_, _, heap_setBlock_same hb _, ?_, fun p hp => hl p (hsub.subset hp), (hsub.map _).nodup hd⟩, hgb _⟩
    · simp [Builtin.delete_, run_underlying ht, MapKept.run_getObj_map hb, KL.check w _ hk, h1, MapKept.run_setObj_map _ hb, Result.andThen, setBlock]
    · have hjl : j < es.size := (Array.getElem?_eq_some_iff.1 (show es[j]? = some e0 by simpa using h3)).1
      have h6 : (es.eraseIdxIfInBounds j).toList = es.toList.eraseIdx j := by
        unfold Array.eraseIdxIfInBounds
        rw [dif_pos hjl]
        simp
      rw [adel_at hd h2, h6, map_eraseIdx, map_eraseIdx, he]
omit [DecidableEq κ] in
theorem MapIs.clear {ν : Type} {eV : ν → Value} {L : List (κ × ν)} (h : MapIs P K eK eV w b L) {t e : TypeId} (ht : P.underlying t = some (.map K e)) (ty : TypeId) :
    ∃ w', (Builtin.clear_ #[t] ty #[.map (some b)]).run P w = .ok (.tuple #[]) w' ∧ MapIs P K eK eV w' b ([] : List (κ × ν)) ∧ w.grownBy w' (some b) := by
  obtain ⟨es, clock, hb, he, hl, hd⟩ := h
  refine ⟨setBlock w b (.map #[] clock), ?_, ⟨_, _, heap_setBlock_same hb _, by simp, by simp, by simp⟩, ⟨rfl, rfl, rfl, by simp [setBlock], fun i _ hi => heap_setBlock_other hb _ (fun e => hi (by rw [e]))⟩⟩
  simp [Builtin.clear_, run_underlying ht, MapKept.run_getObj_map hb, MapKept.run_setObj_map _ hb, Result.andThen, setBlock]
end

section
variable {κ ν : Type} {P : Program} {K : TypeId} {eK : κ → Value} {eV : ν → Value} {b : Nat} {L : List (κ × ν)} [DecidableEq κ]
variable (w : World) {ops : Array Oper} {rest : List Oper} {o : Oper} {a : Act} {Q : Exit → Act → World → Prop}
/-- 'm[k] = v' at the operation -/
theorem wpList_put (hg : o.guard = none) (m x v : Operand) (t e : TypeId) (hop : o.op = Op.mapUpdate t m x v)
    (KL : Keyed P K) (hinj : ∀ x y, eK x = eK y → x = y) (ht : P.underlying t = some (.map K e)) (h : MapIs P K eK eV w b L) (hm : a.eval m = .map (some b)) (k : κ) (hx : a.eval x = eK k) (u : ν) (hv : a.eval v = eV u)
    {kl : Lit} (hk : keyOf P K (eK k) = some kl) (hK : ∀ w', MapIs P K eK eV w' b (aput k u L) → w.grownBy w' (some b) → wpList P ops Q rest (a.put o.dst undef) w') :
    wpList P ops Q (o :: rest) a w := by
  refine wpList_plain hg fun K' hK' => ?_
  obtain ⟨w', hrun, r1, r2⟩ := h.put KL hinj ht hk u
  unfold Oper.wp
  simp [execOp, hop, hm, hx, hv, hrun, Result.andThen]
  exact hK' _ _ (hK w' r1 r2)
theorem wpList_del (hg : o.guard = none) (m x : Operand) (t e : TypeId) (hop : o.op = Op.call { callee := Callee.builtin Builtin.delete, args := #[m, x], argTypes := #[t, K] })
    (KL : Keyed P K) (hinj : ∀ x y, eK x = eK y → x = y) (ht : P.underlying t = some (.map K e)) (h : MapIs P K eK eV w b L) (hm : a.eval m = .map (some b)) (k : κ) (hx : a.eval x = eK k)
    {kl : Lit} (hk : keyOf P K (eK k) = some kl) (hK : ∀ w', MapIs P K eK eV w' b (adel k L) → w.grownBy w' (some b) → wpList P ops Q rest (a.put o.dst (.tuple #[])) w') :
    wpList P ops Q (o :: rest) a w := by
  refine wpList_plain hg fun K' hK' => ?_
  obtain ⟨w', hrun, r1, r2⟩ := h.del KL hinj ht hk o.type
  unfold Oper.wp
  simp [execOp, hop, resolve, invoke, builtin, hm, hx, hrun, Result.andThen]
  exact hK' _ _ (hK w' r1 r2)
omit [DecidableEq κ] in
theorem wpList_clear (hg : o.guard = none) (m : Operand) (t e : TypeId) (hop : o.op = Op.call { callee := Callee.builtin Builtin.clear, args := #[m], argTypes := #[t] })
    (ht : P.underlying t = some (.map K e)) (h : MapIs P K eK eV w b L) (hm : a.eval m = .map (some b))
    (hK : ∀ w', MapIs P K eK eV w' b ([] : List (κ × ν)) → w.grownBy w' (some b) → wpList P ops Q rest (a.put o.dst (.tuple #[])) w') :
    wpList P ops Q (o :: rest) a w := by
  refine wpList_plain hg fun K' hK' => ?_
  obtain ⟨w', hrun, r1, r2⟩ := h.clear ht o.type
  unfold Oper.wp
  simp [execOp, hop, resolve, invoke, builtin, hm, hrun, Result.andThen]
  exact hK' _ _ (hK w' r1 r2)
end

/-! ### a slice of one element is laid; it is appended -/
theorem zip_fold : ∀ (l : List Value) (k off : Nat) (A : Array Value) (i : Nat), off + k + l.length ≤ A.size →
    ((l.zipIdx k).foldl (fun (a : Array Value) (p : Value × Nat) => a.setIfInBounds (off + p.2) p.1) A)[i]? = if i < off + k then A[i]? else if i < off + k + l.length then l[i - (off + k)]? else A[i]?
  | [], k, off, A, i, _ => by simp; intro h1 h2; omega
  | c :: l, k, off, A, i, h => by
    rw [List.zipIdx_cons, List.foldl_cons, zip_fold l (k + 1) off _ i (by simp only [List.length_cons, Array.size_setIfInBounds] at h ⊢; omega)]
    simp only [List.length_cons] at h ⊢
    simp only [Array.getElem?_setIfInBounds]
    by_cases h1 : i < off + k
    · rw [if_pos (by omega), if_pos h1, if_neg (by omega)]
    · by_cases h2 : i = off + k
      · subst h2
        rw [if_pos (by omega), if_neg h1, if_pos (by omega), Nat.sub_self]; simp; omega
      · rw [if_neg (by omega), if_neg h1]
        by_cases h3 : i < off + k + (l.length + 1)
        · rw [if_pos (by omega), if_pos h3, show i - (off + k) = (i - (off + (k + 1))) + 1 from by omega, List.getElem?_cons_succ]
        · rw [if_neg (by omega), if_neg h3, if_neg (by omega)]
theorem fill_all (A cs : Array Value) (h : cs.size = A.size) : cs.zipIdx.foldl (fun (a : Array Value) (p : Value × Nat) => a.setIfInBounds (0 + p.2) p.1) A = cs := by
  apply Array.ext_getElem?
  intro i
  have hf : cs.zipIdx.foldl (fun (a : Array Value) (p : Value × Nat) => a.setIfInBounds (0 + p.2) p.1) A = (cs.toList.zipIdx 0).foldl (fun (a : Array Value) (p : Value × Nat) => a.setIfInBounds (0 + p.2) p.1) A := by
    rw [← Array.foldl_toList]
    simp [Array.toList_zipIdx]
  rw [hf, zip_fold _ _ _ _ _ (by simp [h])]
  simp only [Nat.add_zero, Nat.not_lt_zero, if_false, Nat.zero_add, Array.length_toList, Nat.sub_zero, Array.getElem?_toList]
  by_cases hi : i < cs.size
  · rw [if_pos hi]
  · rw [if_neg hi, Array.getElem?_eq_none (by omega), Array.getElem?_eq_none (by omega)]
theorem run_slice1 {P : Program} {t e : TypeId} {i : TypeInfo} {z : Value} (ht : P.underlying t = some (.slice e)) (hi : P.info? e = some i) (hz : i.zero = some z) (hzs : z.cells.size = i.size) (h0 : 0 < i.size) (hle : i.size ≤ 65536)
    (v : Value) (hv : v.cells.size = i.size) (w : World) : (Instr.buildSlice t 1 #[(0, v)]).run P w = .ok (.slice (some ⟨w.heap.size, 0, none⟩) 1 1) (w.alloc (.cells v.cells e)) := by
  have hf := fill_all ((Array.range (1 * i.size)).map (z.cells[· % z.cells.size]!)) v.cells (by simp [hv])
  have hfill : Instr.fill (fun j => some (j * i.size, i.size)) ((Array.range (1 * i.size)).map (z.cells[· % z.cells.size]!)) [(0, v)] = some v.cells := by
    simp only [Instr.fill, hv, Nat.zero_mul, Nat.zero_add, Array.size_map, Array.size_range, Nat.one_mul]
    rw [if_neg (by simp)]
    simp only [Nat.zero_add, Nat.one_mul] at hf
    simp only [hf]
  simp only [Instr.buildSlice, Sem.run_bind, run_underlying ht, Result.andThen_ok, sizeOf, typeInfo, run_program, hi, Sem.run_pure]
  rw [if_neg (by omega), if_neg (by omega)]
  simp only [Sem.run_bind, zeroValue, typeInfo, run_program, hi, hz, Result.andThen_ok, Sem.run_pure]
  rw [hfill]
  simp [newRow, newObj, Sem.run]
/-- t is the type of slices of e; e has so many cells -/
structure SliceT (P : Program) (t e sz : Nat) : Prop where
  under : P.underlying t = some (.slice e)
  info : ∃ i z, P.info? e = some i ∧ i.zero = some z ∧ z.cells.size = sz ∧ i.size = sz ∧ 0 < sz ∧ sz ≤ 65536 ∧ i.bytes ≤ 65536
def sliceTB (P : Program) (t e sz : Nat) : Bool :=
  match P.underlying t, P.info? e with
  | some (.slice e'), some i => e' == e && i.size == sz && decide (0 < sz) && decide (sz ≤ 65536) && decide (i.bytes ≤ 65536) && (match i.zero with | some z => z.cells.size == sz | none => false)
  | _, _ => false
theorem SliceT.of {P : Program} {t e sz : Nat} (h : sliceTB P t e sz = true) : SliceT P t e sz := by
  unfold sliceTB at h
  split at h
  · rename_i e' i h1 h2
    simp only [Bool.and_eq_true, beq_iff_eq, decide_eq_true_eq] at h
    obtain ⟨⟨⟨⟨⟨rfl, h4⟩, h5⟩, h6⟩, h7⟩, h8⟩ := h
    split at h8
    · rename_i z hz
      exact ⟨h1, i, z, h2, hz, by simpa using h8, h4, h5, h6, h7⟩
    · cases h8
  · cases h
/-- e's zero value has so many cells -/
def ZeroT (P : Program) (e sz : Nat) : Prop := ∃ i z, P.info? e = some i ∧ i.zero = some z ∧ z.cells.size = sz
def zeroTB (P : Program) (e sz : Nat) : Bool := match P.info? e with | some i => (match i.zero with | some z => z.cells.size == sz | none => false) | none => false
theorem ZeroT.of {P : Program} {e sz : Nat} (h : zeroTB P e sz = true) : ZeroT P e sz := by
  unfold zeroTB at h
  split at h
  · rename_i i hi
    split at h
    · rename_i z hz
      exact ⟨i, z, hi, hz, by simpa using h⟩
    · cases h
  · cases h
/-- e is a struct of so many cells -/
structure StructT (P : Program) (e sz : Nat) : Prop where
  under : ∃ fs, P.underlying e = some (.struct fs)
  size : (P.info? e).map (·.size) = some sz
def structTB (P : Program) (e sz : Nat) : Bool :=
  (match P.underlying e with | some (.struct _) => true | _ => false) && (P.info? e).map (·.size) == some sz
theorem StructT.of {P : Program} {e sz : Nat} (h : structTB P e sz = true) : StructT P e sz := by
  unfold structTB at h
  simp only [Bool.and_eq_true, beq_iff_eq] at h
  refine ⟨?_, h.2⟩
  have := h.1
  split at this
  · exact ⟨_, by assumption⟩
  · cases this
theorem own_slice {w : World} {base e sz n : Nat} {v : Value} {xs : List Value} (h : w.ownsRow base e sz v n xs) : ∃ A c, v = .slice A n c := by
  rcases h.2 with ⟨rfl, rfl⟩ | ⟨g, cap, cur, rfl, _⟩
  · exact ⟨none, 0, rfl⟩
  · exact ⟨_, cap, rfl⟩
theorem Blk.ne {w : World} {g g' t t' : Nat} {cs cs' : Array Value} (h : Blk w g t cs) (h' : Blk w g' t' cs') (ht : t ≠ t') : g ≠ g' := by
  rintro rfl
  have h1 : w.heap[g]? = some (.cells cs t (0, 0)) := h
  have h2 : w.heap[g]? = some (.cells cs' t' (0, 0)) := h'
  rw [h1] at h2
  injection h2 with h2
  injection h2 with _ h3 _
  exact ht h3
theorem own_ne {w : World} {base e sz n g t : Nat} {v : Value} {xs : List Value} {cs : Array Value} (h : w.ownsRow base e sz v n xs) (hb : Blk w g t cs) (ht : e ≠ t) : v.ownBlock ≠ some g := by
  intro hv
  rcases h.2 with ⟨rfl, rfl⟩ | ⟨g', cap, cur, rfl, _, hg, _⟩
  · simp [Value.ownBlock] at hv
  · simp only [Value.ownBlock, Option.some.injEq] at hv
    exact Blk.ne (w := w) (t := e) hg hb ht hv
theorem own_ne_map {κ ν : Type} {P : Program} {K : TypeId} {eK : κ → Value} {eV : ν → Value} {w : World} {b : Nat} {L : List (κ × ν)} {base e sz n : Nat} {v : Value} {xs : List Value} (h : w.ownsRow base e sz v n xs) (hm : MapIs P K eK eV w b L) : v.ownBlock ≠ some b := by
  intro hv
  rcases h.2 with ⟨rfl, rfl⟩ | ⟨g', cap, cur, rfl, _, hg, _⟩
  · simp [Value.ownBlock] at hv
  · simp only [Value.ownBlock, Option.some.injEq] at hv
    exact MapIs.ne_blk hm (t := e) (cs := cur) hg hv.symm
theorem own_ne2 {w : World} {base base' e e' sz sz' n n' g : Nat} {v v' : Value} {xs xs' : List Value} (h : w.ownsRow base e sz v n xs) (h' : w.ownsRow base' e' sz' v' n' xs') (he : e ≠ e') (hv : v.ownBlock = some g) : v'.ownBlock ≠ some g := by
  rcases h.2 with ⟨rfl, rfl⟩ | ⟨g', cap, cur, rfl, _, hg, _⟩
  · simp [Value.ownBlock] at hv
  · simp only [Value.ownBlock, Option.some.injEq] at hv
    subst hv
    exact own_ne h' hg (fun e => he e.symm)
theorem own_lt {w : World} {base e sz n g : Nat} {v : Value} {xs : List Value} (h : w.ownsRow base e sz v n xs) (hv : v.ownBlock = some g) : g < w.heap.size := (h.lt g hv).2
theorem own_ge {w : World} {base e sz n g : Nat} {v : Value} {xs : List Value} (h : w.ownsRow base e sz v n xs) (hv : v.ownBlock = some g) : base ≤ g := (h.lt g hv).1
theorem own_ext {S : Nat → Prop} {w w' : World} {base e sz n : Nat} {v : Value} {xs : List Value} (h : w.ownsRow base e sz v n xs) (he : Ext S w w') (hn : ∀ g, v.ownBlock = some g → ¬ S g) : w'.ownsRow base e sz v n xs := by
  refine ⟨h.1, ?_⟩
  rcases h.2 with hn | ⟨g, cap, cur, rfl, hb, hgg, rest⟩
  · exact .inl hn
  · exact .inr ⟨g, cap, cur, rfl, hb, he.heap hgg (hn g rfl), rest⟩
section
variable {P : Program} {w : World} {ops : Array Oper} {rest : List Oper} {o : Oper} {a : Act} {Q : Exit → Act → World → Prop}
/-- a struct is loaded out of a block that is just it -/
theorem wpList_load_blk (hgd : o.guard = none) (ty : TypeId) (x : Operand) (ho : o.op = .load ty x) {sz : Nat} (E : StructT P ty sz) (g : Nat) (hx : a.eval x = .pointer (some ⟨g, 0, none⟩)) (cs : Array Value) {t : TypeId}
    (hg : Blk w g t cs) (hi : cs.size = sz) (h : wpList P ops Q rest (a.put o.dst (.agg cs)) w) : wpList P ops Q (o :: rest) a w := by
  obtain ⟨⟨fs, hu⟩, hs⟩ := E
  exact wpList_load_row hgd ty x ho g hx t cs (0, 0) _ hg hu rfl (by rw [hi]; exact hs) h
/-- a struct is loaded out of a row -/
theorem wpList_load_at (hgd : o.guard = none) (ty : TypeId) (x : Operand) (ho : o.op = .load ty x) {sz : Nat} (E : StructT P ty sz) (b off : Nat) (hx : a.eval x = .pointer (some ⟨b, off, none⟩)) (cs : Array Value)
    (hg : ∀ j u, cs.toList[j]? = some u → w.cell? ⟨b, off + j, none⟩ = some u) (hi : cs.size = sz) (h : wpList P ops Q rest (a.put o.dst (.agg cs)) w) : wpList P ops Q (o :: rest) a w := by
  refine wpList_plain hgd fun K' hK' => ?_
  obtain ⟨⟨fs, hu⟩, hs⟩ := E
  have hl : (loadCells ⟨b, off, none⟩ cs.toList.length).run P w = .ok cs.toList.toArray w :=
    run_loadCells_list (P := P) w ⟨b, off, none⟩ cs.toList (fun j v hv => by
      have hadd : (⟨b, off, none⟩ : Addr).add j = ⟨b, off + j, none⟩ := by unfold Addr.add; split <;> simp_all
      rw [hadd]; exact hg j v hv)
  simp only [Array.length_toList, Array.toArray_toList] at hl
  obtain ⟨i, hi1, hi2⟩ := Option.map_eq_some_iff.1 hs
  have hlv : (loadVar ty ⟨b, off, none⟩).run P w = .ok (.agg cs) w := by
    simp [loadVar, isAgg, run_underlying hu, sizeOf, typeInfo, hi1, hi2, ← hi, hl, Result.andThen]
  unfold Oper.wp execOp
  simp only [ho, hx, Instr.loadAt, Instr.sureAddr, Sem.run_bind, Sem.run_pure, Result.andThen_ok, hlv]
  exact hK' _ _ h
theorem wpList_slice1 (hgd : o.guard = none) (t : TypeId) (x : Operand) (ho : o.op = .buildSlice t 1 #[(0, x)]) {e sz : Nat} (E : SliceT P t e sz) (cs : Array Value) (hx : (a.eval x).cells = cs) (hv : cs.size = sz)
    (h : wpList P ops Q rest (a.put o.dst (.slice (some ⟨w.heap.size, 0, none⟩) 1 1)) (w.alloc (.cells cs e))) : wpList P ops Q (o :: rest) a w := by
  refine wpList_plain hgd fun K' hK' => ?_
  obtain ⟨ht, i, z, hi, hz, hzs, hsz, h0, hle, hby⟩ := E
  subst hx
  have hr := run_slice1 ht hi hz (by rw [hzs, hsz]) (by omega) (by omega) (a.eval x) (by rw [hv, hsz]) w
  unfold Oper.wp
  simp only [execOp, ho]
  simp [hr, Result.andThen]
  exact hK' _ _ h
/-- one element, a block of its own, is appended to a row of the call's own -/
theorem wpList_app1 (hgd : o.guard = none) (s x : Operand) (t : TypeId) (ho : o.op = .call { callee := .builtin .append, args := #[s, x], argTypes := #[t, t] })
    (base : Nat) {e sz : Nat} (E : SliceT P t e sz) (v : Value) (n : Nat) (xs : List Value) (hs : a.eval s = v) (hown : w.ownsRow base e sz v n xs)
    (g c : Nat) (cs : Array Value) (hx : a.eval x = .slice (some ⟨g, 0, none⟩) 1 c) (hg : Blk w g e cs) (hcs : cs.size = sz) (h1 : cs.toList.all Value.oneCell' = true)
    (hn : n < 67108864) (hbase : base ≤ w.heap.size)
    (h : ∀ A' c' w', w'.ownsRow base e sz (.slice A' (n + 1) c') (n + 1) (xs ++ cs.toList) → w.grownBy w' v.ownBlock → wpList P ops Q rest (a.put o.dst (.slice A' (n + 1) c')) w') : wpList P ops Q (o :: rest) a w := by
  obtain ⟨ht, i, z, hi, hz, hzs, hsz, h0, hle, hby⟩ := E
  refine wpList_append_own w hgd s x t ho base e i z sz i.bytes ht hi hz hsz rfl hzs h0 v n xs hs hown ⟨g, 0, none⟩ 1 c cs.toList hx (by simpa using hcs) (fun j u hu => ?_) (fun u hu => ?_) (by unfold maxLen; omega) ?_ hbase (fun v' w' r1 r2 _ => by obtain ⟨A', c', rfl⟩ := own_slice r1; exact h A' c' w' r1 r2)
  · have hadd : (⟨g, 0, none⟩ : Addr).add j = ⟨g, j, none⟩ := by unfold Addr.add; split <;> simp_all
    rw [hadd, hg.cell]; simpa using hu
  · exact List.all_eq_true.1 h1 u hu
  · have := Nat.mul_le_mul (show n + 1 ≤ 67108864 by omega) hby; omega
/-- a new variable of a struct's type: its cells, whatever they are -/
theorem wpList_alloc_any (hgd : o.guard = none) (ty : TypeId) (ho : o.op = .alloc ty) {sz : Nat} (E : ZeroT P ty sz)
    (h : ∀ z : Array Value, z.size = sz → wpList P ops Q rest (a.put o.dst (.pointer (some ⟨w.heap.size, 0, none⟩))) (w.alloc (.cells z ty))) : wpList P ops Q (o :: rest) a w := by
  refine wpList_plain hgd fun K' hK' => ?_
  obtain ⟨i, z, hi, hz, hzs⟩ := E
  have hr : (Instr.alloc ty true (.tuple #[])).run P w = .ok (.pointer (some ⟨w.heap.size, 0, none⟩)) (w.alloc (.cells z.cells ty)) := by
    simp [Instr.alloc, zeroValue, typeInfo, hi, hz, Result.andThen, newVar, newRow]
  unfold Oper.wp
  simp only [execOp, ho]
  simp [hr, Result.andThen]
  exact hK' _ _ (h z.cells hzs)
/-- a struct is stored whole into the variable that was just made -/
theorem wpList_store_new {w0 : World} (hgd : o.guard = none) (ty : TypeId) (p x : Operand) (ho : o.op = .store ty p x) {sz : Nat} (E : StructT P ty sz) (z : Array Value) (hz : z.size = sz) (hw : w = w0.alloc (.cells z ty))
    (hp : a.eval p = .pointer (some ⟨w0.heap.size, 0, none⟩)) (cs : Array Value) (hx : a.eval x = .agg cs) (hcs : cs.size = sz) (h1 : cs.toList.all Value.oneCell' = true)
    (h : wpList P ops Q rest (a.put o.dst undef) (w0.alloc (.cells cs ty))) : wpList P ops Q (o :: rest) a w := by
  subst hw
  refine wpList_plain hgd fun K' hK' => ?_
  obtain ⟨⟨fs, hu⟩, hs⟩ := E
  obtain ⟨i, hi1, hi2⟩ := Option.map_eq_some_iff.1 hs
  have hst := run_storeCells_at P w0.heap.size 0 ty cs.toList 0 z (w0.alloc (.cells z ty)) (heap_alloc_new _ _) (by simp; omega) (fun v hv => List.all_eq_true.1 h1 v hv)
  have hrow : (w0.alloc (.cells z ty)).setRow w0.heap.size (z.toList.take (0 + 0) ++ cs.toList ++ z.toList.drop (0 + 0 + cs.toList.length)).toArray = w0.alloc (.cells cs ty) := by
    have h2 : (z.toList.take (0 + 0) ++ cs.toList ++ z.toList.drop (0 + 0 + cs.toList.length)).toArray = cs := by
      simp [hcs, ← hz]
      rw [List.drop_eq_nil_of_le (by simp)]; simp
    rw [h2]
    have h3 : ∀ f : Obj → Obj, (w0.heap.push (Obj.cells z ty)).modify w0.heap.size f = w0.heap.push (f (Obj.cells z ty)) := fun f => by
      apply Array.ext_getElem?
      intro i
      rw [Array.getElem?_modify, Array.getElem?_push, Array.getElem?_push]
      by_cases hi : i = w0.heap.size
      · subst hi; simp
      · rw [if_neg (fun e => hi e.symm), if_neg hi, if_neg hi]
    simp only [World.setRow]
    show World.mk ((w0.heap.push (Obj.cells z ty)).modify w0.heap.size _) _ _ _ _ = World.mk (w0.heap.push (Obj.cells cs ty)) _ _ _ _
    rw [h3]
    rfl
  rw [hrow] at hst
  have hr : (Instr.storeAt ty (.pointer (some ⟨w0.heap.size, 0, none⟩)) (.agg cs)).run P (w0.alloc (.cells z ty)) = .ok () (w0.alloc (.cells cs ty)) := by
    simp only [Instr.storeAt, Instr.sureAddr, Sem.run_bind, Sem.run_pure, Result.andThen_ok, storeVar, sizeOf, typeInfo, run_program, hi1, Value.cells, hi2, hcs]
    simp [hst]
  unfold Oper.wp
  simp only [execOp, ho, hp, hx]
  simp [hr, Result.andThen]
  exact hK' _ _ h
end
/-! short names for what walks write often (pack.py puts them in place of the long forms) -/
theorem zA {α : Type} {xs : List α} {i : Nat} (h : i < xs.toArray.size) : xs.toArray[i] = xs[i]'h := rfl
theorem zB {α : Type} (a : α) (l : List α) (i : Nat) (h : i + 1 < (a :: l).length) : (a :: l)[i + 1] = l[i]'(Nat.lt_of_succ_lt_succ h) := rfl
theorem zC {α : Type} (a : α) (l : List α) (h : 0 < (a :: l).length) : (a :: l)[0] = a := rfl
theorem zD {α : Type} (l : List α) (i : Nat) (a : α) : l.toArray.setIfInBounds i a = (l.set i a).toArray := List.setIfInBounds_toArray l i a
theorem zE {α : Type} {x : α} {xs : List α} {i : Nat} {a : α} : (x :: xs).set (i + 1) a = x :: xs.set i a := rfl
theorem zF {α : Type} {x : α} {xs : List α} {a : α} : (x :: xs).set 0 a = a :: xs := rfl
theorem Ext.tr {S : Nat → Prop} {w w' w'' : World} (h : Ext S w w') (k : Ext S w' w'') : Ext S w w'' := h.trans k (fun _ _ e => e)
theorem Ext.t0 {S : Nat → Prop} {w w' w'' : World} (h : Ext S w w') (k : Ext Nothing w' w'') : Ext S w w'' := h.trans k (fun _ _ e => e.elim)
theorem Ext.c0 {w w' : World} (h : Ext Nothing w w') {p : Addr} {v : Value} (hc : w.cell? p = some v) : w'.cell? p = some v := h.cell hc (fun e => e)
theorem Blk.e0 {w w' : World} {g t : Nat} {cs : Array Value} (h : Blk w g t cs) (he : Ext Nothing w w') : Blk w' g t cs := h.ext he (fun e => e)
theorem xS {S : Nat → Prop} {w w' : World} (h : Ext S w w') {p : Addr} (hp : w.heap.size ≤ p.block) (u : Value) : Ext S w (w'.setCell p u) := h.setCell (.inl hp) u
/-- a chain of new blocks and draws, found by the instances -/
class ExtC (S : Nat → Prop) (w w' : World) : Prop where
  h : Ext S w w'
instance ExtC.r (S : Nat → Prop) (w : World) : ExtC S w w := ⟨Ext.refl S w⟩
instance ExtC.a (S : Nat → Prop) (w w' : World) (o : Obj) [k : ExtC S w w'] : ExtC S w (w'.alloc o) := ⟨k.h.alloc o⟩
instance ExtC.d (S : Nat → Prop) (w w' : World) [k : ExtC S w w'] : ExtC S w w'.drew := ⟨k.h.drew⟩
instance ExtC.n (S : Nat → Prop) (w w' : World) (n : Nat) [k : ExtC S w w'] : ExtC S w (w'.drewN n) := ⟨k.h.drewN n⟩
theorem Ext.auto {S : Nat → Prop} {w w' : World} [k : ExtC S w w'] : Ext S w w' := k.h
end Go.Proofs.YtgjabfpkbcdkcaaGreatDoor
