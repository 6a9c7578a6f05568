/- The evaluator's memory and a world's: what the one says of the other, and how it is kept. -/
import Derived.Test.YtgjabfpkbcdkcaaGreatDoorEvC
import Derived.Laws.CopyRow
namespace Go.Proofs.YtgjabfpkbcdkcaaGreatDoor
set_option linter.unusedSimpArgs false
set_option linter.unusedVariables false
/-- what block b of the world is, when the evaluator's block is o (c: its capacity in elements, of an open row) -/
def CRel (P : Program) (E : En) (w : World) (b c : Nat) : AO → Prop
  | .cells ty cs opn ro => ∃ arr fr, w.heap[b]? = some (.cells arr ty fr) ∧ (∀ v ∈ cs, good E v) ∧ (∃ rest, arr.toList = cs.map (conc E) ++ rest ∧ (opn = false → rest = [])) ∧
      (opn = true → ∃ i, P.info? ty = some i ∧ arr.size = c * i.size) ∧ (ro = false → ∀ j, j < arr.size → w.frozen? ⟨b, j, none⟩ = false)
  | .map es => ∃ ents clock, w.heap[b]? = some (.map ents clock) ∧ ents.toList.map (fun e => (e.key, e.val)) = es.map (fun p => (p.1, conc E p.2)) ∧ ∀ p ∈ es, good E p.2
  | .chan cap buf s r => w.heap[b]? = some (.chan cap ⟨buf.map (conc E)⟩ false s r false) ∧ ∀ v ∈ buf, good E v
  | .virt _ => False
def BRel (P : Program) (base : Nat → Prop) (E : En) (w : World) (x : Option (Nat × Nat)) (o : AO) : Prop := ∃ b c, x = some (b, c) ∧ ¬ base b ∧ CRel P E w b c o
def ORel (P : Program) (base : Nat → Prop) (E : En) (w : World) (x : Option (Nat × Nat)) : AO → Prop
  | .virt o => x = none ∨ BRel P base E w x o
  | o => BRel P base E w x o
/-- the world that the call found, and which of its blocks may be written -/
structure Wo extends World where
  own : Nat → Prop
/-- the blocks that stay as they are -/
def Wo.K (o : Wo) (b : Nat) : Prop := b < o.heap.size ∧ ¬ o.own b
/-- what is kept: the world that the call found; the blocks that may not be made yet -/
structure Base extends Wo where
  V : Nat → Option AO
/-- the evaluator's memory H is a part of the world w, which came out of w0 -/
structure Sim (P : Program) (w0 : Base) (E : En) (H : Hp) (w : World) : Prop where
  os : w.os = w0.os
  tape : w.tape = w0.tape
  out : w.output = w0.output
  size : w0.heap.size ≤ w.heap.size
  old : ∀ b, w0.K b → w.heap[b]? = w0.heap[b]?
  glob : ∀ g, g < P.globals.size → E g = some (g, 0)
  lt : ∀ id x, E id = some x → id < H.nx
  tl : ∀ id o, H.t.get id = some o → id < H.nx
  obj : ∀ id o, H.t.get id = some o → ORel P w0.K E w (E id) o
  inj : ∀ id id' o o' b c c', H.t.get id = some o → H.t.get id' = some o' → E id = some (b, c) → E id' = some (b, c') → id = id'
  pend : ∀ id ob, w0.V id = some ob → E id = none ∧ H.t.get id = some (.virt ob)
theorem Hp.new_nx (H : Hp) (o : AO) : (H.new o).nx = H.nx + 1 := by obtain ⟨n, t⟩ := H; rfl
theorem Hp.new_get (H : Hp) (o : AO) (id : Nat) : (H.new o).t.get id = if id = H.nx then some o else H.t.get id := by obtain ⟨n, t⟩ := H; exact Tr.get_set _ _ _ _
theorem Hp.put_nx (H : Hp) (k : Nat) (o : AO) : (H.put k o).nx = H.nx := by obtain ⟨n, t⟩ := H; rfl
theorem Hp.put_get (H : Hp) (k : Nat) (o : AO) (id : Nat) : (H.put k o).t.get id = if id = k then some o else H.t.get id := by obtain ⟨n, t⟩ := H; exact Tr.get_set _ _ _ _
theorem Hp.del_nx (H : Hp) (k : Nat) : (H.del k).nx = H.nx := by obtain ⟨n, t⟩ := H; rfl
theorem Hp.del_get (H : Hp) (k id : Nat) : (H.del k).t.get id = if id = k then none else H.t.get id := by obtain ⟨n, t⟩ := H; exact Tr.get_set _ _ _ _
section
variable {P : Program} {w0 : Base} {w w' : World} {E E' : En} {H : Hp} {b c : Nat} {base : Nat → Prop} {o : AO} {x : Option (Nat × Nat)}
theorem CRel.lt (h : CRel P E w b c o) : b < w.heap.size := by
  cases o with
  | cells ty cs opn ro => obtain ⟨arr, fr, h1, _⟩ := h; exact (Array.getElem?_eq_some_iff.1 h1).1
  | map es => obtain ⟨ents, clock, h1, _⟩ := h; exact (Array.getElem?_eq_some_iff.1 h1).1
  | chan cap buf s r => exact (Array.getElem?_eq_some_iff.1 h.1).1
  | virt o => exact h.elim
theorem CRel.le (h : CRel P E w b c o) (hE : E.le E') : CRel P E' w b c o := by
  cases o with
  | cells ty cs opn ro =>
    obtain ⟨arr, fr, h1, h2, h3, h4, h5⟩ := h
    exact ⟨arr, fr, h1, fun v hv => (conc_le hE v (h2 v hv)).2, by rw [map_conc_le hE h2]; exact h3, h4, h5⟩
  | map es =>
    obtain ⟨ents, clock, h1, h2, h3⟩ := h
    refine ⟨ents, clock, h1, ?_, fun p hp => (conc_le hE _ (h3 p hp)).2⟩
    rw [h2]
    exact List.map_congr_left fun p hp => by rw [(conc_le hE _ (h3 p hp)).1]
  | chan cap buf s r =>
    obtain ⟨h1, h2⟩ := h
    exact ⟨by rw [map_conc_le hE h2]; exact h1, fun v hv => (conc_le hE v (h2 v hv)).2⟩
  | virt o => exact h.elim
theorem CRel.keep (h : CRel P E w b c o) (hb : w'.heap[b]? = w.heap[b]?) : CRel P E w' b c o := by
  cases o with
  | cells ty cs opn ro =>
    obtain ⟨arr, fr, h1, h2, h3, h4, h5⟩ := h
    refine ⟨arr, fr, by rw [hb]; exact h1, h2, h3, h4, fun hr j hj => ?_⟩
    have := h5 hr j hj
    unfold World.frozen? at *
    simp only [hb]
    exact this
  | map es => obtain ⟨ents, clock, h1, h2, h3⟩ := h; exact ⟨ents, clock, by rw [hb]; exact h1, h2, h3⟩
  | chan cap buf s r => exact ⟨by rw [hb]; exact h.1, h.2⟩
  | virt o => exact h.elim
theorem BRel.le (h : BRel P base E w x o) (hE : E.le E') : BRel P base E' w x o := let ⟨b, c, h1, h2, h3⟩ := h; ⟨b, c, h1, h2, h3.le hE⟩
theorem BRel.keep (h : BRel P base E w x o) (hb : ∀ b c, x = some (b, c) → w'.heap[b]? = w.heap[b]?) : BRel P base E w' x o :=
  let ⟨b, c, h1, h2, h3⟩ := h; ⟨b, c, h1, h2, h3.keep (hb b c h1)⟩
theorem ORel.le (h : ORel P base E w x o) (hE : E.le E') : ORel P base E' w x o := by
  cases o with
  | virt o => exact h.imp id fun h => h.le hE
  | _ => exact BRel.le h hE
theorem ORel.keep (h : ORel P base E w x o) (hb : ∀ b c, x = some (b, c) → w'.heap[b]? = w.heap[b]?) : ORel P base E w' x o := by
  cases o with
  | virt o => exact h.imp id fun h => h.keep hb
  | _ => exact BRel.keep h hb
theorem ORel.lt (h : ORel P base E w x o) {b c : Nat} (hx : x = some (b, c)) : ¬ base b ∧ b < w.heap.size := by
  have k : ∀ o, BRel P base E w x o → ¬ base b ∧ b < w.heap.size := fun o h => by
    obtain ⟨b', c', h1, h2, h3⟩ := h
    rw [hx] at h1
    obtain ⟨rfl, rfl⟩ : b = b' ∧ c = c' := by simpa using h1
    exact ⟨h2, h3.lt⟩
  cases o with
  | virt o => exact h.elim (fun h => by rw [hx] at h; cases h) (k o)
  | _ => exact k _ h
/-- of a block that is no virtual one -/
theorem Sim.at_ (S : Sim P w0 E H w) {id : Nat} (hg : H.t.get id = some o) (hv : ∀ q, o ≠ .virt q) : ∃ b c, E id = some (b, c) ∧ ¬ w0.K b ∧ CRel P E w b c o := by
  have h := S.obj id o hg
  cases o with
  | virt q => exact absurd rfl (hv q)
  | _ => exact h
theorem Sim.same (S : Sim P w0 E H w) (h1 : w'.heap = w.heap) (h2 : w'.os = w.os) (h3 : w'.tape = w.tape) (h4 : w'.output = w.output) : Sim P w0 E H w' :=
  ⟨h2.trans S.os, h3.trans S.tape, h4.trans S.out, by rw [h1]; exact S.size, fun b hb => by rw [h1]; exact S.old b hb, S.glob, S.lt, S.tl,
    fun id o hg => (S.obj id o hg).keep fun b c _ => by rw [h1], S.inj, S.pend⟩
theorem Sim.drew (S : Sim P w0 E H w) (n : Nat) : Sim P w0 E H { w with drawn := n } := S.same rfl rfl rfl rfl
theorem Sim.nx_none (S : Sim P w0 E H w) : E H.nx = none := by
  cases h : E H.nx with
  | none => rfl
  | some x => exact absurd (S.lt _ _ h) (Nat.lt_irrefl _)
/-- the world has one block more, at its end; the evaluator's memory has one more -/
theorem Sim.new (S : Sim P w0 E H w) (co : Obj) (ho : w'.heap = w.heap.push co) (h2 : w'.os = w.os) (h3 : w'.tape = w.tape) (h4 : w'.output = w.output) {E' : En} (hE : E' = E.add H.nx (w.heap.size, c))
    (hv : ∀ q, o ≠ .virt q) (hr : CRel P E' w' w.heap.size c o) : Sim P w0 E' (H.new o) w' ∧ E.le E' := by
  subst hE
  have hle := En.add_le (x := (w.heap.size, c)) S.nx_none
  have hold : ∀ k, k < w.heap.size → w'.heap[k]? = w.heap[k]? := fun k hk => by rw [ho, Array.getElem?_push]; rw [if_neg (by omega)]
  have hget : ∀ id, (H.new o).t.get id = if id = H.nx then some o else H.t.get id := fun id => Hp.new_get H o id
  have hEid : ∀ id, id ≠ H.nx → E.add H.nx (w.heap.size, c) id = E id := fun id h => if_neg h
  refine ⟨⟨h2.trans S.os, h3.trans S.tape, h4.trans S.out, by rw [ho]; simp; have := S.size; omega, fun b hb => by rw [hold b (by have := S.size; have := hb.1; omega)]; exact S.old b hb,
    fun g hg => hle _ _ (S.glob g hg), ?_, ?_, ?_, ?_, ?_⟩, hle⟩
  · intro id x hx
    by_cases h : id = H.nx
    · subst h; exact Nat.lt_succ_self _
    · rw [hEid id h] at hx
      exact Nat.lt_succ_of_lt (S.lt _ _ hx)
  · intro id q hq
    rw [hget] at hq
    by_cases h : id = H.nx
    · subst h; exact Nat.lt_succ_self _
    · rw [if_neg h] at hq; exact Nat.lt_succ_of_lt (S.tl _ _ hq)
  · intro id q hq
    rw [hget] at hq
    by_cases h : id = H.nx
    · subst h
      rw [if_pos rfl] at hq
      obtain rfl : o = q := by simpa using hq
      have hb : BRel P w0.K (E.add H.nx (w.heap.size, c)) w' (E.add H.nx (w.heap.size, c) H.nx) o := ⟨w.heap.size, c, if_pos rfl, fun hk => by have := hk.1; have := S.size; omega, hr⟩
      cases o with
      | virt q => exact absurd rfl (hv q)
      | _ => exact hb
    · rw [if_neg h] at hq
      rw [hEid id h]
      have h1 := S.obj id q hq
      exact (h1.le hle).keep fun b c hx => hold b (h1.lt hx).2
  · intro id id' q q' b c1 c2 h1 h2 h3 h4
    rw [hget] at h1 h2
    by_cases e1 : id = H.nx
    · by_cases e2 : id' = H.nx
      · rw [e1, e2]
      · rw [if_neg e2] at h2
        rw [hEid id' e2] at h4
        subst e1
        have := ((S.obj id' q' h2).lt h4).2
        have h3' : some (w.heap.size, c) = some (b, c1) := by rw [← h3]; exact (if_pos rfl).symm
        simp at h3'
        omega
    · rw [if_neg e1] at h1
      rw [hEid id e1] at h3
      by_cases e2 : id' = H.nx
      · subst e2
        have := ((S.obj id q h1).lt h3).2
        have h4' : some (w.heap.size, c) = some (b, c2) := by rw [← h4]; exact (if_pos rfl).symm
        simp at h4'
        omega
      · rw [if_neg e2] at h2
        rw [hEid id' e2] at h4
        exact S.inj id id' q q' b c1 c2 h1 h2 h3 h4
  · intro id ob hv
    obtain ⟨p1, p2⟩ := S.pend id ob hv
    have hne : id ≠ H.nx := fun e => by have := S.tl _ _ p2; omega
    rw [hEid id hne, hget, if_neg hne]
    exact ⟨p1, p2⟩
theorem Sim.noV (S : Sim P w0 E H w) {id : Nat} {x : Nat × Nat} (h : E id = some x) : w0.V id = none := by
  cases hv : w0.V id with
  | none => rfl
  | some ob => have := (S.pend id ob hv).1; rw [h] at this; cases this
/-- one block of the world is written, and the evaluator's -/
theorem Sim.put (S : Sim P w0 E H w) {id : Nat} {o' : AO} (hg : H.t.get id = some o) (hid : E id = some (b, c)) (hb : ¬ w0.K b) (hs : w'.heap.size = w.heap.size)
    (ho : ∀ k, k ≠ b → w'.heap[k]? = w.heap[k]?) (h2 : w'.os = w.os) (h3 : w'.tape = w.tape) (h4 : w'.output = w.output) (hv : ∀ q, o' ≠ .virt q) (hr : CRel P E w' b c o') : Sim P w0 E (H.put id o') w' := by
  have hget : ∀ j, (H.put id o').t.get j = if j = id then some o' else H.t.get j := fun j => Hp.put_get H id o' j
  refine ⟨h2.trans S.os, h3.trans S.tape, h4.trans S.out, by rw [hs]; exact S.size, fun k hk => by rw [ho k (fun e => hb (e ▸ hk))]; exact S.old k hk, S.glob, S.lt, ?_, ?_, ?_, ?_⟩
  · intro j q hq
    rw [hget] at hq
    by_cases h : j = id
    · subst h; exact S.tl _ _ hg
    · rw [if_neg h] at hq; exact S.tl _ _ hq
  · intro j q hq
    rw [hget] at hq
    by_cases h : j = id
    · subst h
      rw [if_pos rfl] at hq
      obtain rfl : o' = q := by simpa using hq
      have hbr : BRel P w0.K E w' (E j) o' := ⟨b, c, hid, hb, hr⟩
      cases o' with
      | virt q => exact absurd rfl (hv q)
      | _ => exact hbr
    · rw [if_neg h] at hq
      refine (S.obj j q hq).keep fun k c' hk => ho k fun e => ?_
      subst e
      exact h (S.inj j id q o k c' c hq hg hk hid)
  · intro j j' q q' b1 c1 c2 e1 e2 e3 e4
    have k : ∀ j q, (H.put id o').t.get j = some q → ∃ q', H.t.get j = some q' := fun j q h => by
      rw [hget] at h
      by_cases e : j = id
      · subst e; exact ⟨_, hg⟩
      · rw [if_neg e] at h; exact ⟨_, h⟩
    obtain ⟨u, hu⟩ := k j q e1
    obtain ⟨v, hv⟩ := k j' q' e2
    exact S.inj j j' u v b1 c1 c2 hu hv e3 e4
  · intro j ob hv
    obtain ⟨p1, p2⟩ := S.pend j ob hv
    have hne : j ≠ id := by rintro rfl; rw [hid] at p1; cases p1
    rw [hget, if_neg hne]
    exact ⟨p1, p2⟩
/-- what is known of a block is said otherwise; the world stays -/
theorem Sim.say (S : Sim P w0 E H w) {id : Nat} {o' : AO} (hg : H.t.get id = some o) (hr : ORel P w0.K E w (E id) o') (hp : w0.V id = none) : Sim P w0 E (H.put id o') w := by
  have hget : ∀ j, (H.put id o').t.get j = if j = id then some o' else H.t.get j := fun j => Hp.put_get H id o' j
  refine ⟨S.os, S.tape, S.out, S.size, S.old, S.glob, S.lt, ?_, ?_, ?_, ?_⟩
  · intro j q hq
    rw [hget] at hq
    by_cases h : j = id
    · subst h; exact S.tl _ _ hg
    · rw [if_neg h] at hq; exact S.tl _ _ hq
  · intro j q hq
    rw [hget] at hq
    by_cases h : j = id
    · subst h
      rw [if_pos rfl] at hq
      obtain rfl : o' = q := by simpa using hq
      exact hr
    · rw [if_neg h] at hq; exact S.obj j q hq
  · intro j j' q q' b1 c1 c2 e1 e2 e3 e4
    have k : ∀ j q, (H.put id o').t.get j = some q → ∃ q', H.t.get j = some q' := fun j q h => by
      rw [hget] at h
      by_cases e : j = id
      · subst e; exact ⟨_, hg⟩
      · rw [if_neg e] at h; exact ⟨_, h⟩
    obtain ⟨u, hu⟩ := k j q e1
    obtain ⟨v, hv⟩ := k j' q' e2
    exact S.inj j j' u v b1 c1 c2 hu hv e3 e4
  · intro j ob hv
    obtain ⟨p1, p2⟩ := S.pend j ob hv
    have hne : j ≠ id := by rintro rfl; rw [hp] at hv; cases hv
    rw [hget, if_neg hne]
    exact ⟨p1, p2⟩
/-- a block is forgotten -/
theorem Sim.del (S : Sim P w0 E H w) (id : Nat) (hp : w0.V id = none) : Sim P w0 E (H.del id) w := by
  have hget : ∀ j q, (H.del id).t.get j = some q → H.t.get j = some q := fun j q h => by
    have : (H.del id).t.get j = if j = id then none else H.t.get j := Hp.del_get H id j
    rw [this] at h
    by_cases e : j = id
    · rw [if_pos e] at h; cases h
    · rwa [if_neg e] at h
  exact ⟨S.os, S.tape, S.out, S.size, S.old, S.glob, S.lt, fun j q h => S.tl _ _ (hget j q h), fun j q h => S.obj _ _ (hget j q h),
    fun j j' q q' b c c' h1 h2 => S.inj j j' q q' b c c' (hget _ _ h1) (hget _ _ h2),
    fun j ob hv => by
      obtain ⟨p1, p2⟩ := S.pend j ob hv
      have hne : j ≠ id := by rintro rfl; rw [hp] at hv; cases hv
      have : (H.del id).t.get j = if j = id then none else H.t.get j := Hp.del_get H id j
      rw [this, if_neg hne]
      exact ⟨p1, p2⟩⟩
end
end Go.Proofs.YtgjabfpkbcdkcaaGreatDoor
