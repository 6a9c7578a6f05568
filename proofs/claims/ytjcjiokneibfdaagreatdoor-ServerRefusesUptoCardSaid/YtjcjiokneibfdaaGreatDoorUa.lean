/- Calls by the evaluator in the midst of a walk: what it knows, what stays; ints that it does not know. -/
import Derived.Test.YtjcjiokneibfdaaGreatDoorEh
import Derived.Test.YtjcjiokneibfdaaGreatDoorBase
namespace Go.Proofs.YtjcjiokneibfdaaGreatDoor
set_option linter.unusedVariables false
set_option linter.unusedSimpArgs false
/-- the blocks that the evaluator's memory speaks of -/
def Own (E : En) (H : Hp) (b : Nat) : Prop := ∃ id o c, H.t.get id = some o ∧ E id = some (b, c)
/-- the evaluator's memory H is a part of the world w, none of it below B -/
structure Ev (B : Nat) (E : En) (H : Hp) (w : World) : Prop where
  sim : Sim PP ⟨⟨w, Own E H⟩, fun _ => none⟩ E H w
  lo : ∀ b, Own E H b → B ≤ b
section
variable {B N mask k : Nat} {w0 : Base} {w w' : World} {E E' : En} {H H' : Hp} {S : Nat → Prop}
theorem Own.lt (h : Sim PP w0 E H w) {b : Nat} (o : Own E H b) : b < w.heap.size := by
  obtain ⟨id, o, c, h1, h2⟩ := o
  exact ((h.obj id o h1).lt h2).2
theorem Ev.lt (h : Ev B E H w) {b : Nat} (o : Own E H b) : b < w.heap.size := Own.lt h.sim o
theorem ORel.re {K K' : Nat → Prop} {w : World} {x : Option (Nat × Nat)} {o : AO} (h : ORel PP K E w x o) (hk : ∀ b c, x = some (b, c) → ¬ K' b) : ORel PP K' E w x o := by
  have key : ∀ o, BRel PP K E w x o → BRel PP K' E w x o := fun o h => let ⟨b, c, h1, h2, h3⟩ := h; ⟨b, c, h1, hk b c h1, h3⟩
  cases o with
  | virt o => exact h.imp id (key o)
  | _ => exact key _ h
/-- what is known is known of a new beginning -/
theorem Sim.rebase (h : Sim PP w0 E H w) (hv : ∀ id, w0.V id = none) : Sim PP ⟨⟨w, Own E H⟩, fun _ => none⟩ E H w :=
  ⟨rfl, rfl, rfl, Nat.le_refl _, fun _ _ => rfl, h.glob, h.lt, h.tl, fun id o hg => (h.obj id o hg).re fun b c hx hk => hk.2 ⟨id, o, c, hg, hx⟩, h.inj, fun id ob e => by cases e⟩
theorem Ev.sim0 (hN : PP.globals.size = N) (w : World) (hB : B ≤ w.heap.size) : Ev B (e0 N) ⟨N, .e⟩ w := by
  have hno : ∀ id o, (Tr.e : Tr AO).get id = some o → False := fun id o h => by cases h
  exact ⟨(Go.Proofs.YtjcjiokneibfdaaGreatDoor.sim0 hN w).rebase fun _ => rfl, fun b ⟨id, o, c, h1, _⟩ => (hno id o h1).elim⟩
/-- a world that differs elsewhere -/
theorem Ev.ext (h : Ev B E H w) (hx : Ext S w w') (hs : ∀ b, Own E H b → ¬ S b) : Ev B E H w' := by
  refine ⟨⟨rfl, rfl, rfl, Nat.le_refl _, fun _ _ => rfl, h.sim.glob, h.sim.lt, h.sim.tl, fun id o hg => ?_, h.sim.inj, fun id ob e => by cases e⟩, h.lo⟩
  have h1 := (h.sim.obj id o hg).re (K' := (Wo.K ⟨w', Own E H⟩)) fun b c hx hk => hk.2 ⟨id, o, c, hg, hx⟩
  exact h1.keep fun b c he => hx.block b (h1.lt he).2 (hs b ⟨id, o, c, hg, he⟩)
theorem Ev.ext0 (h : Ev B E H w) (hx : Ext Nothing w w') : Ev B E H w' := h.ext hx fun _ _ e => e
/-- a name more, that stands for an int -/
def unk (n : Nat) : Value := .func (.yield n) #[] #[]
def En.int (E : En) (n : Nat) (i : Int) : En := E.add n (0, encI i)
theorem Ev.ghost (h : Ev B E H w) (i : Int) : Ev B (E.int H.nx i) ⟨H.nx + 1, H.t⟩ w ∧ E.le (E.int H.nx i) ∧ conc (E.int H.nx i) (unk H.nx) = .int .i64 i ∧ good (E.int H.nx i) (unk H.nx) := by
  have hle : E.le (E.int H.nx i) := En.add_le h.sim.nx_none
  have hne : ∀ id o, H.t.get id = some o → id ≠ H.nx := fun id o hg e => by have := h.sim.tl id o hg; omega
  have hid : ∀ id, id ≠ H.nx → E.int H.nx i id = E id := fun id e => if_neg e
  have hself : E.int H.nx i H.nx = some (0, encI i) := if_pos rfl
  have hown : ∀ b, Own (E.int H.nx i) ⟨H.nx + 1, H.t⟩ b → Own E H b := fun b ⟨id, o, c, h1, h2⟩ => ⟨id, o, c, h1, by rw [← hid id (hne id o h1)]; exact h2⟩
  refine ⟨⟨⟨rfl, rfl, rfl, Nat.le_refl _, fun _ _ => rfl, fun g hg => hle _ _ (h.sim.glob g hg), fun id x hx => ?_, fun id o hg => Nat.lt_succ_of_lt (h.sim.tl id o hg), fun id o hg => ?_, fun id id' o o' b c c' h1 h2 h3 h4 => ?_, fun id ob e => by cases e⟩, fun b hb => h.lo b (hown b hb)⟩, hle, ?_, ?_⟩
  · by_cases e : id = H.nx
    · rw [e]; exact Nat.lt_succ_self _
    · rw [hid id e] at hx; exact Nat.lt_succ_of_lt (h.sim.lt id x hx)
  · rw [hid id (hne id o hg)]
    exact ((h.sim.obj id o hg).le hle).re fun b c hx hk => hk.2 ⟨id, o, c, hg, by rw [hid id (hne id o hg)]; exact hx⟩
  · rw [hid id (hne id o h1)] at h3
    rw [hid id' (hne id' o' h2)] at h4
    exact h.sim.inj id id' o o' b c c' h1 h2 h3 h4
  · simp [unk, conc, En.cap, hself, decI_encI]
  · simp [unk, good, hself]
/-- a call that the evaluator runs -/
theorem Ev.call {ext : FuncId → Option (List Value → Option Value)} (hN : PP.globals.size = N) (hm : PP.follows .mixedOrders = true) (hfn : okAll N mask PP.funcs.toList 0 = true) (hx : ExtOk ext) {f : FuncId} {args : List Value} {v : Value}
    (hr : callE ext (fnsM mask) evHook k f args H = some (v, H')) (h : Ev B E H w) (hg : ∀ a ∈ args, good E a) (hB : B ≤ w.heap.size) :
    Calls PP f ⟨args.map (conc E)⟩ w fun e w' => ∃ E', e = .returned (conc E' v) ∧ good E' v ∧ E.le E' ∧ Ev B E' H' w' ∧ Ext (Own E H) w w' ∧ ∀ b, Own E' H' b → Own E H b ∨ w.heap.size ≤ b := by
  refine (eval_ok hm (by omega) (fns_ok hfn) hx evHook_ok k ⟨⟨w, Own E H⟩, fun _ => none⟩ f args H v H' hr E w h.sim hg).2.mono fun e w' he => ?_
  obtain ⟨E', rfl, hle, S, hgv⟩ := he
  have hown : ∀ b, Own E' H' b → Own E H b ∨ w.heap.size ≤ b := fun b ⟨id, o, c, h1, h2⟩ => by
    have hk := ((S.obj id o h1).lt h2).1
    by_cases hb : b < w.heap.size
    · exact .inl (Classical.byContradiction fun hn => hk ⟨hb, hn⟩)
    · exact .inr (by omega)
  exact ⟨E', rfl, hgv, hle, ⟨S.rebase fun _ => rfl, fun b hb => (hown b hb).elim (h.lo b) fun e => by omega⟩, ⟨S.os, S.tape, S.out, S.size, fun b hb hn => S.old b ⟨hb, hn⟩⟩, hown⟩
/-- a cell of the evaluator's memory -/
noncomputable def cellE (H : Hp) (id off : Nat) : Option Value := match cellsOf H id with | some cs => nth cs off | none => none
theorem Ev.cell (h : Ev B E H w) {id off : Nat} {v : Value} (hc : cellE H id off = some v) : w.cell? ⟨E.blk id, off, none⟩ = some (conc E v) ∧ good E v := by
  unfold cellE at hc
  split at hc
  · rename_i cs hcs
    obtain ⟨_, arr, ty, fr, _, _, hall⟩ := cellsOf_ok h.sim hcs
    rw [nth_eq] at hc
    exact ⟨(hall off v hc).2, (hall off v hc).1⟩
  · cases hc
theorem Ev.own (h : Ev B E H w) {id : Nat} {cs : List Value} (hc : cellsOf H id = some cs) : Own E H (E.blk id) := by
  unfold cellsOf at hc
  split at hc
  · rename_i ty cs' opn ro hg
    obtain ⟨b, c, h1, _, _⟩ := h.sim.at_ hg (by intro q; simp)
    exact ⟨id, _, c, hg, by rw [h1]; simp [En.blk, h1]⟩
  · cases hc
/-- likewise; beside it variables of the walk's own, which the evaluator does not touch -/
structure EvL (B : Nat) (L : List Nat) (E : En) (H : Hp) (w : World) : Prop where
  ev : Ev B E H w
  av : ∀ l ∈ L, l < w.heap.size ∧ ¬ Own E H l
theorem EvL.sub {L L' : List Nat} (h : EvL B L E H w) (hl : ∀ l ∈ L', l ∈ L) : EvL B L' E H w := ⟨h.ev, fun l hm => h.av l (hl l hm)⟩
theorem EvL.ext {L : List Nat} (h : EvL B L E H w) (hx : Ext S w w') (hs : ∀ b, Own E H b → ¬ S b) : EvL B L E H w' := ⟨h.ev.ext hx hs, fun l hm => ⟨Nat.lt_of_lt_of_le (h.av l hm).1 hx.size, (h.av l hm).2⟩⟩
theorem EvL.ext0 {L : List Nat} (h : EvL B L E H w) (hx : Ext Nothing w w') : EvL B L E H w' := h.ext hx fun _ _ e => e
theorem EvL.ext1 {L : List Nat} {l : Nat} (h : EvL B L E H w) (hl : l ∈ L) (hx : Ext (fun q => q = l) w w') : EvL B L E H w' := h.ext hx fun b hb e => (h.av l hl).2 (by rw [← show b = l from e]; exact hb)
/-- a variable more -/
theorem EvL.add {L : List Nat} {l : Nat} (h : EvL B L E H w) (hx : Ext Nothing w w') (h1 : w.heap.size ≤ l) (h2 : l < w'.heap.size) : EvL B (l :: L) E H w' := by
  refine ⟨(h.ext0 hx).ev, fun k hk => ?_⟩
  rcases List.mem_cons.1 hk with rfl | hk
  · exact ⟨h2, fun o => by have := h.ev.lt o; omega⟩
  · exact (h.ext0 hx).av k hk
theorem EvL.ghost {L : List Nat} (h : EvL B L E H w) (i : Int) : EvL B L (E.int H.nx i) ⟨H.nx + 1, H.t⟩ w ∧ E.le (E.int H.nx i) ∧ conc (E.int H.nx i) (unk H.nx) = .int .i64 i ∧ good (E.int H.nx i) (unk H.nx) := by
  obtain ⟨h1, h2, h3, h4⟩ := h.ev.ghost i
  refine ⟨⟨h1, fun l hm => ⟨(h.av l hm).1, fun o => (h.av l hm).2 ?_⟩⟩, h2, h3, h4⟩
  obtain ⟨id, o, c, g1, g2⟩ := o
  have hne : id ≠ H.nx := fun e => by have := h.ev.sim.tl id o g1; omega
  exact ⟨id, o, c, g1, by rw [← show E.int H.nx i id = E id from if_neg hne]; exact g2⟩
theorem EvL.call {L : List Nat} {ext : FuncId → Option (List Value → Option Value)} (hN : PP.globals.size = N) (hm : PP.follows .mixedOrders = true) (hfn : okAll N mask PP.funcs.toList 0 = true) (hx : ExtOk ext) {f : FuncId} {args : List Value} {v : Value}
    (hr : callE ext (fnsM mask) evHook k f args H = some (v, H')) (h : EvL B L E H w) (hg : ∀ a ∈ args, good E a) (hB : B ≤ w.heap.size) :
    Calls PP f ⟨args.map (conc E)⟩ w fun e w' => ∃ E', e = .returned (conc E' v) ∧ good E' v ∧ E.le E' ∧ EvL B L E' H' w' ∧ (∀ l ∈ L, w'.heap[l]? = w.heap[l]?) ∧ Ext (fun b => B ≤ b) w w' := by
  refine (h.ev.call hN hm hfn hx hr hg hB).mono fun e w' he => ?_
  obtain ⟨E', rfl, h1, h2, h3, h4, h5⟩ := he
  exact ⟨E', rfl, h1, h2, ⟨h3, fun l hm => ⟨Nat.lt_of_lt_of_le (h.av l hm).1 h4.size, fun o => (h5 l o).elim (h.av l hm).2 fun e => by have := (h.av l hm).1; omega⟩⟩,
    fun l hm => h4.block l (h.av l hm).1 (h.av l hm).2, h4.mono fun b hb o => h.ev.lo b o⟩
end
end Go.Proofs.YtjcjiokneibfdaaGreatDoor
