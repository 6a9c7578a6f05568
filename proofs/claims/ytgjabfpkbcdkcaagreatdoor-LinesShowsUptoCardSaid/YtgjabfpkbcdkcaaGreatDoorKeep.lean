/- General words for loops over a function: what a round keeps ('Keep'), and the walk's laws inside a round. No program is named. -/
import Derived.Test.YtgjabfpkbcdkcaaGreatDoorStore
import Derived.RangeFuncNested
import Derived.RangeFuncBound
import Derived.RangeFuncCalls
import Derived.RangeFuncLeaves
import Derived.Shelf.Abstract
import Derived.Shelf.RegionOpen
import Derived.WalkKit
import Derived.OwnWalkIn
import Derived.TacticsInMore
import Derived.LoopNIn
import Derived.LoopIn
import Derived.Maps.OwnIn
import Derived.OrdersIn
import Derived.OrdersHeld
import Derived.BigQuiet
namespace Go.Proofs.YtgjabfpkbcdkcaaGreatDoor
set_option linter.unusedVariables false
open Go.RowKit
open Go.Maps (Keyed)

/-- block b is the row of the slice that stands in cell B -/
def rowAt (B : Nat) (W : World) (b : Nat) : Prop := ∃ v, W.cell? ⟨B, 0, none⟩ = some v ∧ v.ownBlock = some b
/-- what a round keeps: all blocks of cells but those of S and the row in cell B -/
structure Keep (S : Nat → Prop) (B : Nat) (W W' : World) : Prop where
  os : W'.os = W.os
  tape : W'.tape = W.tape
  output : W'.output = W.output
  size : W.heap.size ≤ W'.heap.size
  cells : ∀ b o, W.heap[b]? = some o → o.isCells = true → ¬ S b → ¬ rowAt B W b → W'.heap[b]? = some o
  row : ∀ b, rowAt B W' b → rowAt B W b ∨ (W.heap.size ≤ b ∧ b < W'.heap.size)
section
variable {S : Nat → Prop} {B : Nat} {W W' W'' : World}
theorem Keep.refl (S : Nat → Prop) (B : Nat) (W : World) : Keep S B W W := ⟨rfl, rfl, rfl, Nat.le_refl _, fun _ _ h _ _ _ => h, fun _ h => .inl h⟩
theorem Keep.trans (h : Keep S B W W') (k : Keep S B W' W'') : Keep S B W W'' := by
  refine ⟨k.os.trans h.os, k.tape.trans h.tape, k.output.trans h.output, Nat.le_trans h.size k.size, fun b o hb hc hs hr => ?_, fun b hb => ?_⟩
  · refine k.cells b o (h.cells b o hb hc hs hr) hc hs (fun e => ?_)
    rcases h.row b e with e | e
    · exact hr e
    · have := (Array.getElem?_eq_some_iff.1 hb).1; omega
  · rcases k.row b hb with e | e
    · rcases h.row b e with e | e
      · exact .inl e
      · exact .inr ⟨e.1, Nat.lt_of_lt_of_le e.2 k.size⟩
    · exact .inr ⟨Nat.le_trans h.size e.1, e.2⟩
theorem rowAt_ext {S' : Nat → Prop} (h : Ext S' W W') (hB : B < W.heap.size) (hn : ¬ S' B) {b : Nat} : rowAt B W' b ↔ rowAt B W b := by
  have : W'.cell? ⟨B, 0, none⟩ = W.cell? ⟨B, 0, none⟩ := World.cell?_of_block (h.block B hB hn)
  simp [rowAt, this]
theorem Keep.of_ext (h : Ext S W W') (hB : B < W.heap.size) (hn : ¬ S B) : Keep S B W W' :=
  ⟨h.os, h.tape, h.output, h.size, fun b o hb _ hs _ => h.heap hb hs, fun b hb => .inl ((rowAt_ext h hB hn).1 hb)⟩
theorem Keep.of_ext0 (h : Ext Nothing W W') (hB : B < W.heap.size) : Keep S B W W' :=
  ⟨h.os, h.tape, h.output, h.size, fun b o hb _ hs _ => h.heap hb (fun e => e), fun b hb => .inl ((rowAt_ext h hB (fun e => e)).1 hb)⟩
/-- a round may write the blocks of S (B too), if B then holds no row, or one that was there or is new -/
theorem Keep.of_ext_row {S' : Nat → Prop} (h : Ext S' W W') (hS : ∀ b, b < W.heap.size → S' b → S b ∨ rowAt B W b ∨ ∀ o, W.heap[b]? = some o → o.isCells = false) (hr : ∀ b, rowAt B W' b → rowAt B W b ∨ (W.heap.size ≤ b ∧ b < W'.heap.size)) : Keep S B W W' :=
  ⟨h.os, h.tape, h.output, h.size, fun b o hb hc hs hr' => h.heap hb (fun e => by
    rcases hS b (Array.getElem?_eq_some_iff.1 hb).1 e with k | k | k
    · exact hs k
    · exact hr' k
    · rw [k o hb] at hc; cases hc), hr⟩
theorem keep_t {A C D : World} (h : Keep S B A C) (k : Keep S B C D) : Keep S B A D := h.trans k
theorem keep_b {w : World} (hB : B < w.heap.size) (W : World) (l : Nat) (o o' : Obj) (hl : w.heap.size ≤ l) (h : W.heap[l]? = some o) (ho : o.isCells = false) (_ : o.isWalk = false) : Keep S B W (W.putObj l o') := by
  have hg := grownBy_putObj' W l o'
  have hx : Ext (fun b => b = l) W (W.putObj l o') := Ext.of_grown hg (fun g e => by cases e; rfl)
  refine ⟨hx.os, hx.tape, hx.output, hx.size, fun b o2 hb hc _ _ => hx.heap hb (fun e => by subst e; rw [h] at hb; cases hb; rw [ho] at hc; cases hc), fun b hb => .inl ?_⟩
  obtain ⟨v, hv, hb'⟩ := hb
  have hlt := (Array.getElem?_eq_some_iff.1 h).1
  exact ⟨v, by rw [← World.cell?_of_block (hx.block B (by omega) (by omega))]; exact hv, hb'⟩
theorem Keep.blk (h : Keep S B W W') {g t : Nat} {cs : Array Value} (hg : Blk W g t cs) (hs : ¬ S g) (hr : ¬ rowAt B W g) : Blk W' g t cs := h.cells g _ hg rfl hs hr
theorem Keep.cell (h : Keep S B W W') {p : Addr} {v : Value} (hc : W.cell? p = some v) (hs : ¬ S p.block) (hr : ¬ rowAt B W p.block) : W'.cell? p = some v := by
  have hlt := World.block_lt_of_cell? W p hc
  obtain ⟨o, ho⟩ : ∃ o, W.heap[p.block]? = some o := ⟨_, Array.getElem?_eq_getElem hlt⟩
  have hk : o.isCells = true := by
    cases o <;> simp_all [World.cell?, Obj.isCells]
  rw [World.cell?_of_block (w := W) (w' := W') ((h.cells _ _ ho hk hs hr).trans ho.symm)]
  exact hc
theorem Keep.sl (h : Keep S B W W') {sz n : Nat} {A : Option Addr} {xs : List (List Value)} (hl : Sl W sz A n xs) (hn : ∀ b, A.map (·.block) = some b → xs ≠ [] → ¬ S b ∧ ¬ rowAt B W b) : Sl W' sz A n xs :=
  ⟨hl.1, fun i cs hi => by
    obtain ⟨b, off, rfl, hl', hc⟩ := hl.2 i cs hi
    obtain ⟨h1, h2⟩ := hn b rfl (by rintro rfl; simp at hi)
    exact ⟨b, off, rfl, hl', fun j u hu => h.cell (hc j u hu) h1 h2⟩⟩
end
theorem Ext.grownBy0 {W W' : World} (h : Ext Nothing W W') : W.grownBy W' none := ⟨h.os, h.tape, h.output, h.size, fun k hk _ => h.block k hk (fun e => e)⟩

section
variable {W W' : World} {row : Option Nat} {B : Nat}
/-- a turn of a block that is no cells, at or beyond B -/
abbrev Turn (W : World) (B : Nat) (row : Option Nat) : Prop := ∀ r, row = some r → B ≤ r ∧ ∃ o : Obj, W.heap[r]? = some o ∧ o.isCells = false
theorem ext_turn {S : Nat → Prop} {W1 : World} (h : Ext S W1 W) (hg : W.grownBy W' row) (hr : Turn W B row) (hB : W1.heap.size ≤ B) : Ext S W1 W' := h.grown hg (fun g e => .inl (by have := (hr g e).1; omega))
theorem blk_turn {g t : Nat} {cs : Array Value} (h : Blk W g t cs) (hg : W.grownBy W' row) (hr : Turn W B row) : Blk W' g t cs :=
  (hg.block g h.lt (fun e => by obtain ⟨_, o, ho, hc⟩ := hr g e.symm; rw [show W.heap[g]? = _ from h] at ho; cases ho; cases hc)).trans h
theorem own_turn {base e sz n : Nat} {v : Value} {xs : List Value} (h : W.ownsRow base e sz v n xs) (hg : W.grownBy W' row) (hr : Turn W B row) : W'.ownsRow base e sz v n xs := by
  refine ⟨h.1, ?_⟩
  rcases h.2 with hn | ⟨g, cap, cur, rfl, hb, hgg, rest⟩
  · exact .inl hn
  · exact .inr ⟨g, cap, cur, rfl, hb, blk_turn hgg hg hr, rest⟩
theorem map_turn {κ ν : Type} {P : Program} {K : TypeId} {eK : κ → Value} {eV : ν → Value} {b : Nat} {L : List (κ × ν)} (h : MapIs P K eK eV W b L) (hg : W.grownBy W' row) (hr : Turn W B row) (hb : b < B) : MapIs P K eK eV W' b L :=
  h.ext (S := fun k => some k = row) (Ext.of_grown hg (fun g e => e.symm)) (fun e => by have := (hr b e.symm).1; omega)
theorem heap_turn {b : Nat} {o : Obj} (h : W.heap[b]? = some o) (hg : W.grownBy W' row) (hr : Turn W B row) (hb : b < B) : W'.heap[b]? = some o :=
  (hg.block b (Array.getElem?_eq_some_iff.1 h).1 (fun e => by have := (hr b e.symm).1; omega)).trans h
theorem Ext.keepsFrom {S : Nat → Prop} (h : Ext S W W') (hS : ∀ b, B ≤ b → S b → ∀ o, W.heap[b]? = some o → o.isCells = true) : KeepsFrom B W W' :=
  ⟨h.size, fun k o hB hk ho => h.heap hk (fun e => by rw [hS k hB e o hk] at ho; cases ho)⟩
theorem Ext.put {S : Nat → Prop} {l : Nat} {o o' : Obj} {W0 : World} (h : Ext S W0 W) (hl : W.heap[l]? = some o) (hs : W0.heap.size ≤ l ∨ S l) : Ext S W0 (W.putObj l o') :=
  h.grown (grownBy_putObj' W l o') (fun g e => by cases e; exact hs)
end

/-! ### a region of a round that only reads, in whatever order -/
section
variable {P : Program} {ops : Array Oper} {md : Region.Mode} {C : World → Prop} {l n : Nat}
def noDefer (o : Oper) : Bool := match o.op with | .defer _ => false | _ => true
theorem noDefer_spec {o : Oper} (h : noDefer o = true) : ∀ c, o.op ≠ .defer c := fun c hc => by simp [noDefer, hc] at h
theorem wpInQ_of_quiet {o : Oper} {a : Act} {K : Act → Prop} {K' : Act → World → Prop} {Q' : Exit → Act → World → Prop} {w : World} (hd : noDefer o = true) (hw : C w) (h : ∀ a w', C w' → K a → K' a w') (hh : o.quiet P a C K) : o.wpIn (Fence.wide.inRound l) n P a w K' Q' := by
  obtain ⟨v, h1, h2⟩ := hh
  have h3 := h1 w hw
  unfold Oper.quietAt at h3
  unfold Oper.wpIn
  refine ⟨fun _ _ => trivial, ?_⟩
  rw [Oper.semAt_plain _ _ _ (noDefer_spec hd)]
  generalize (execOp a.eval o).run P w = r at *
  cases r with
  | ok m w' =>
    cases m <;> simp only [Oper.quietUpon] at h3 <;> simp only [Oper.uponIn]
    case value u =>
      obtain ⟨e1, e2⟩ := h3
      rw [e1, e2]
      exact h _ _ hw h2
    case skip =>
      obtain ⟨e1, e2⟩ := h3
      rw [e1, ← e2]
      exact h _ _ hw h2
    case enter f args =>
      obtain ⟨e1, hc⟩ := h3
      rw [e1]
      exact ⟨fun hd => Bool.noConfusion hd, (CallsIn.inRound l (callsIn_wide.2 hc)).mono fun e w'' ⟨he, hw''⟩ => by subst he; exact h _ _ hw'' h2⟩
  | halt x w' => simp only [Oper.quietUpon] at h3
theorem wpOpIn_of_qOp {i : Nat} {a : Act} {K : Act → Prop} {K' : Act → World → Prop} {Q' : Exit → Act → World → Prop} {w : World} (hd : ops.all noDefer = true) (hC : C w) (h : ∀ a w', C w' → K a → K' a w') (hh : qOp P ops C i K a) : wpOpIn (Fence.wide.inRound l) n P ops Q' i K' a w := by
  unfold qOp at hh
  unfold wpOpIn
  split
  · rename_i ho; simp only [ho] at hh; exact h _ _ hC hh
  · rename_i o ho
    simp only [ho] at hh
    have hdo : noDefer o = true := by
      obtain ⟨hi, rfl⟩ := Array.getElem?_eq_some_iff.1 ho
      exact Array.all_eq_true.1 hd i hi
    split
    · rename_i hw; simp only [hw, if_true] at hh; exact wpInQ_of_quiet hdo hC h hh
    · rename_i hw; simp only [hw] at hh; exact ⟨fun _ _ => trivial, h _ _ hC hh⟩
theorem wpAnyIn_of_quiet {Q : Act → Prop} {Q' : Exit → Act → World → Prop} (hd : ops.all noDefer = true) (hQ : ∀ a w, C w → Q a → Q' .normal a w) : ∀ (fuel : Nat) (listed : Array Bool) (a : Act) (w : World), C w →
    wpAnyQ P md ops C Q fuel listed a → wpAnyIn (Fence.wide.inRound l) n P md ops Q' fuel listed a w
  | 0, _, _, _, hw, h => ⟨h.1, hQ _ _ hw h.2⟩
  | fuel + 1, _, _, _, hw, h => ⟨fun h0 => hQ _ _ hw (h.1 h0), fun i hi => wpOpIn_of_qOp hd hw (fun a' w' hw' => wpAnyIn_of_quiet hd hQ fuel _ a' w' hw') (h.2 i hi)⟩
theorem wpIn_region_quiet_lit {id : Nat} {Q : Exit → Act → World → Prop} {a : Act} {w : World} {L : List Oper} (hm : P.follows .mixedOrders = true) (hB : Region.lexB .any L.toArray = true) (hd : L.toArray.all noDefer = true)
    (h : wpQuiet P L.toArray (fun w' => ∃ m, w' = w.drewN m) (fun a' => ∀ w', (∃ m, w' = w.drewN m) → Q .normal a' w') L a) : (Code.region id L.toArray true).wpIn (Fence.wide.inRound l) n P Q a w := by
  simp only [Region.lexB, Bool.and_eq_true] at hB
  refine wpIn_region_any hm (wpAnyIn_of_quiet (C := fun w' => ∃ m, w' = w.drewN m) (Q := fun a' => ∀ w', (∃ m, w' = w.drewN m) → Q .normal a' w') hd (fun _ w' hw' h => h w' hw') _ _ _ _ ⟨1, rfl⟩ ?_)
  have := wpAnyQ_lex (C := fun w' => ∃ m, w' = w.drewN m) (md := .any) hB.1 L.toArray.toList 0 (Array.replicate L.toArray.size false) a (by simp) (by simpa using hB.2) (by simpa using h)
  simpa using this
end

/-! ### a region of a round that draws its order: loads may be taken first -/
section
variable {P : Program} {ops : Array Oper} {md : Region.Mode} {l n : Nat} {Q : Exit → Act → World → Prop}
theorem wpInR_of_wp {o : Oper} {a : Act} {K : Act → World → Prop} {w : World} (hd : noDefer o = true) (h : o.wp P a w K Q) : o.wpIn (Fence.wide.inRound l) n P a w K Q := by
  unfold Oper.wp at h
  unfold Oper.wpIn
  refine ⟨fun _ _ => trivial, ?_⟩
  rw [Oper.semAt_plain _ _ _ (noDefer_spec hd)]
  generalize (execOp a.eval o).run P w = r at *
  cases r with
  | ok m w' =>
    cases m <;> simp only [Oper.upon] at h <;> simp only [Oper.uponIn]
    case value u => exact h
    case skip => exact h
    case defer d => exact h
    case enter f args => exact ⟨fun hd => Bool.noConfusion hd, (CallsIn.inRound l (callsIn_wide.2 h)).mono fun e w'' he => by cases e <;> exact he⟩
    case row row args => exact ⟨fun hd => Bool.noConfusion hd, fun c cs _ => let ⟨v, w'', r, s⟩ := h c cs; ⟨v, w'', r, stepsIn_wide.2 s⟩⟩
  | halt x w' =>
    cases x <;> simp only [Oper.upon] at h <;> simp only [Oper.uponIn]
    exact h
theorem wpOpIn_of_wpOp {i : Nat} {a : Act} {K K' : Act → World → Prop} {w : World} (hd : ops.all noDefer = true) (hQ : ¬ LetsOut Q) (hK : ∀ a w, K a w → K' a w) (h : wpOp P ops Q i K a w) : wpOpIn (Fence.wide.inRound l) n P ops Q i K' a w := by
  unfold wpOp at h
  unfold wpOpIn
  split
  · rename_i ho; simp only [ho] at h; exact hK _ _ h
  · rename_i o ho
    simp only [ho] at h
    have hdo : noDefer o = true := by
      obtain ⟨hi, rfl⟩ := Array.getElem?_eq_some_iff.1 ho
      exact Array.all_eq_true.1 hd i hi
    split
    · rename_i hw
      simp only [hw, if_true] at h
      rcases h with h | h
      · exact Oper.wpIn_mono hK (wpInR_of_wp hdo h)
      · exact absurd h.2 hQ
    · rename_i hw; simp only [hw] at h; exact ⟨fun _ _ => trivial, hK _ _ h⟩
theorem wpAnyIn_of_wpAny (hd : ops.all noDefer = true) (hQ : ¬ LetsOut Q) : ∀ (fuel : Nat) (listed : Array Bool) (a : Act) (w : World), wpAny P md ops Q fuel listed a w → wpAnyIn (Fence.wide.inRound l) n P md ops Q fuel listed a w
  | 0, _, _, _, h => h
  | fuel + 1, _, _, _, h => ⟨h.1, fun i hi => wpOpIn_of_wpOp hd hQ (fun a' w' => wpAnyIn_of_wpAny hd hQ fuel _ a' w') (h.2 i hi)⟩
theorem wpIn_region_held {S : World → Prop} {id : Nat} {a : Act} {w : World} (hm : P.follows .mixedOrders = true) (hd : ops.all noDefer = true) (hQ : ¬ LetsOut Q)
    (h : wpAnyH P .any ops Q S ops.size (Array.replicate ops.size false) a w.drew) : (Code.region id ops true).wpIn (Fence.wide.inRound l) n P Q a w :=
  wpIn_region_any hm (wpAnyIn_of_wpAny hd hQ _ _ _ _ (wpAny_of_held _ _ _ _ h))
theorem wpIn_normal {F : Fence} {c : Code} {a : Act} {w : World} (h : c.wpIn F n P (fun e a' w' => e = .normal ∧ Q .normal a' w') a w) : c.wpIn F n P Q a w :=
  wpIn_mono h (fun e a w q => by obtain ⟨rfl, q⟩ := q; exact q)
theorem wpOp_val {i : Nat} {o : Oper} {v : Value} {a : Act} {w w' : World} {K : Act → World → Prop} (hi : ops[i]? = some o) (hw : Region.wanted o (yielded ops a.tmps) = true) (hr : (execOp a.eval o).run P w = .ok (.value v) w') (h : K (a.put o.dst v) w') : wpOp P ops Q i K a w := by
  unfold wpOp
  simp only [hi, hw, if_true, Oper.wp, hr, Oper.upon]
  exact .inl h
theorem wpOp_none {i : Nat} {o : Oper} {a : Act} {w w' : World} {K : Act → World → Prop} (hi : ops[i]? = some o) (hw : Region.wanted o (yielded ops a.tmps) = true) (hr : (execOp a.eval o).run P w = .ok .skip w') (h : K (a.put o.dst undef) w') : wpOp P ops Q i K a w := by
  unfold wpOp
  simp only [hi, hw, if_true, Oper.wp, hr, Oper.upon]
  exact .inl h
end

/-! ### the walk's laws in a round -/
section
variable {F : Fence} {n : Nat} {P : Program} {w : World} {ops : Array Oper} {rest : List Oper} {o : Oper} {a : Act} {Q : Exit → Act → World → Prop}
theorem wpListIn_val {v : Value} {w' : World} (hgd : o.guard = none) (hop : ∀ c, o.op ≠ .defer c) (hab : o.about P w a.eval = none) (hr : (execOp a.eval o).run P w = .ok (.value v) w')
    (h : wpListIn F n P ops Q rest (a.put o.dst v) w') : wpListIn F n P ops Q (o :: rest) a w := by
  refine wpListIn_plain hgd fun K' hK' => ?_
  unfold Oper.wpIn
  refine ⟨fun f hf => (by rw [hab] at hf; cases hf), ?_⟩
  rw [Oper.semAt_plain F _ _ hop, hr]
  exact hK' _ _ h
theorem wpListIn_none {w' : World} (hgd : o.guard = none) (hop : ∀ c, o.op ≠ .defer c) (hab : o.about P w a.eval = none) (hr : (execOp a.eval o).run P w = .ok .skip w')
    (h : wpListIn F n P ops Q rest (a.put o.dst undef) w') : wpListIn F n P ops Q (o :: rest) a w := by
  refine wpListIn_plain hgd fun K' hK' => ?_
  unfold Oper.wpIn
  refine ⟨fun f hf => (by rw [hab] at hf; cases hf), ?_⟩
  rw [Oper.semAt_plain F _ _ hop, hr]
  exact hK' _ _ h
theorem wpListIn_load_at (hgd : o.guard = none) (ty : TypeId) (x : Operand) (ho : o.op = .load ty x) {sz : Nat} (E : StructT P ty sz) (b off : Nat) (hx : a.eval x = .pointer (some ⟨b, off, none⟩)) (cs : Array Value)
    (hg : ∀ j u, cs.toList[j]? = some u → w.cell? ⟨b, off + j, none⟩ = some u) (hi : cs.size = sz) (h : wpListIn F n P ops Q rest (a.put o.dst (.agg cs)) w) : wpListIn F n P ops Q (o :: rest) a w := by
  obtain ⟨⟨fs, hu⟩, hs⟩ := E
  have hl : (loadCells ⟨b, off, none⟩ cs.toList.length).run P w = .ok cs.toList.toArray w :=
    run_loadCells_list (P := P) w ⟨b, off, none⟩ cs.toList (fun j v hv => by
      have hadd : (⟨b, off, none⟩ : Addr).add j = ⟨b, off + j, none⟩ := by unfold Addr.add; split <;> simp_all
      rw [hadd]; exact hg j v hv)
  simp only [Array.length_toList, Array.toArray_toList] at hl
  obtain ⟨i, hi1, hi2⟩ := Option.map_eq_some_iff.1 hs
  have hlv : (loadVar ty ⟨b, off, none⟩).run P w = .ok (.agg cs) w := by
    simp [loadVar, isAgg, run_underlying hu, sizeOf, typeInfo, hi1, hi2, ← hi, hl, Result.andThen]
  refine wpListIn_val hgd (by rw [ho]; intro c hc; cases hc) (by simp [Oper.about, ho]) (v := .agg cs) (w' := w) ?_ h
  unfold execOp
  simp only [ho, hx, Instr.loadAt, Instr.sureAddr, Sem.run_bind, Sem.run_pure, Result.andThen_ok, hlv]
theorem wpListIn_load_blk (hgd : o.guard = none) (ty : TypeId) (x : Operand) (ho : o.op = .load ty x) {sz : Nat} (E : StructT P ty sz) (g : Nat) (hx : a.eval x = .pointer (some ⟨g, 0, none⟩)) (cs : Array Value) {t : TypeId}
    (hg : Blk w g t cs) (hi : cs.size = sz) (h : wpListIn F n P ops Q rest (a.put o.dst (.agg cs)) w) : wpListIn F n P ops Q (o :: rest) a w :=
  wpListIn_load_at hgd ty x ho E g 0 hx cs (fun j u hu => by rw [Nat.zero_add, hg.cell]; simpa using hu) hi h
section
variable {κ ν : Type} {K : TypeId} {eK : κ → Value} {eV : ν → Value} {b : Nat} {L : List (κ × ν)} [DecidableEq κ]
theorem wpListIn_put (hgd : o.guard = none) (m x v : Operand) (t e : TypeId) (hop : o.op = Op.mapUpdate t m x v)
    (KL : Keyed P K) (hinj : ∀ x y, eK x = eK y → x = y) (ht : P.underlying t = some (.map K e)) (h : MapIs P K eK eV w b L) (hm : a.eval m = .map (some b)) (k : κ) (hx : a.eval x = eK k) (u : ν) (hv : a.eval v = eV u)
    {kl : Lit} (hk : keyOf P K (eK k) = some kl) (hK : ∀ w', MapIs P K eK eV w' b (aput k u L) → w.grownBy w' (some b) → wpListIn F n P ops Q rest (a.put o.dst undef) w') :
    wpListIn F n P ops Q (o :: rest) a w := by
  refine wpListIn_plain hgd fun K' hK' => ?_
  obtain ⟨w', hrun, r1, r2⟩ := h.put KL hinj ht hk u
  unfold Oper.wpIn
  refine ⟨by simp [Oper.about, hop], ?_⟩
  rw [Oper.semAt_plain F _ _ (by rw [hop]; intro c hc'; cases hc')]
  simp [execOp, hop, hm, hx, hv, hrun, Result.andThen]
  exact hK' _ _ (hK w' r1 r2)
theorem wpListIn_look (hgd : o.guard = none) (m x : Operand) (t e : TypeId) (hop : o.op = Op.lookup t m x false)
    (KL : Keyed P K) (hinj : ∀ x y, eK x = eK y → x = y) (ht : P.underlying t = some (.map K e)) {z : Value} (hz : (zeroValue e).run P w = .ok z w) (h : MapIs P K eK eV w b L) (hm : a.eval m = .map (some b)) (k : κ) (hx : a.eval x = eK k)
    {kl : Lit} (hk : keyOf P K (eK k) = some kl) (hK : wpListIn F n P ops Q rest (a.put o.dst ((aget k L).elim z eV)) w) :
    wpListIn F n P ops Q (o :: rest) a w := by
  have hrun := h.look KL hinj ht hz hk false
  refine wpListIn_plain hgd fun K' hK' => ?_
  unfold Oper.wpIn
  refine ⟨by simp [Oper.about, hop], ?_⟩
  rw [Oper.semAt_plain F _ _ (by rw [hop]; intro c hc'; cases hc')]
  simp [execOp, hop, hm, hx, hrun, Result.andThen]
  exact hK' _ _ hK
theorem wpList_look (hgd : o.guard = none) (m x : Operand) (t e : TypeId) (hop : o.op = Op.lookup t m x false)
    (KL : Keyed P K) (hinj : ∀ x y, eK x = eK y → x = y) (ht : P.underlying t = some (.map K e)) {z : Value} (hz : (zeroValue e).run P w = .ok z w) (h : MapIs P K eK eV w b L) (hm : a.eval m = .map (some b)) (k : κ) (hx : a.eval x = eK k)
    {kl : Lit} (hk : keyOf P K (eK k) = some kl) (hK : wpList P ops Q rest (a.put o.dst ((aget k L).elim z eV)) w) :
    wpList P ops Q (o :: rest) a w := by
  have hrun := h.look KL hinj ht hz hk false
  refine wpList_plain hgd fun K' hK' => ?_
  unfold Oper.wp
  simp [execOp, hop, hm, hx, hrun, Result.andThen]
  exact hK' _ _ hK
end
theorem wpListIn_slice1 (hgd : o.guard = none) (t : TypeId) (x : Operand) (ho : o.op = .buildSlice t 1 #[(0, x)]) {e sz : Nat} (E : SliceT P t e sz) (cs : Array Value) (hx : (a.eval x).cells = cs) (hv : cs.size = sz)
    (h : wpListIn F n P ops Q rest (a.put o.dst (.slice (some ⟨w.heap.size, 0, none⟩) 1 1)) (w.alloc (.cells cs e))) : wpListIn F n P ops Q (o :: rest) a w := by
  obtain ⟨ht, i, z, hi, hz, hzs, hsz, h0, hle, hby⟩ := E
  subst hx
  have hr := run_slice1 ht hi hz (by rw [hzs, hsz]) (by omega) (by omega) (a.eval x) (by rw [hv, hsz]) w
  refine wpListIn_plain hgd fun K' hK' => ?_
  unfold Oper.wpIn
  refine ⟨by simp [Oper.about, ho], ?_⟩
  rw [Oper.semAt_plain F _ _ (by rw [ho]; intro c hc'; cases hc')]
  simp only [execOp, ho]
  simp [hr, Result.andThen]
  exact hK' _ _ h
/-- one element, a block of its own, is appended to a row of the call's own; any count that is in reach -/
theorem wpListIn_app1 (hgd : o.guard = none) (s x : Operand) (t : TypeId) (ho : o.op = .call { callee := .builtin .append, args := #[s, x], argTypes := #[t, t] })
    (base : Nat) {e sz : Nat} (E : SliceT P t e sz) (by_ : Nat) (hby_ : (P.info? e).map (·.bytes) = some by_) (v : Value) (k : Nat) (xs : List Value) (hs : a.eval s = v) (hown : w.ownsRow base e sz v k xs)
    (g c : Nat) (cs : Array Value) (hx : a.eval x = .slice (some ⟨g, 0, none⟩) 1 c) (hg : Blk w g e cs) (hcs : cs.size = sz) (h1 : cs.toList.all Value.oneCell' = true)
    (hn : k + 1 ≤ maxLen) (hn2 : (k + 1) * by_ ≤ 140737488355328) (hbase : base ≤ w.heap.size)
    (h : ∀ A' c' w', w'.ownsRow base e sz (.slice A' (k + 1) c') (k + 1) (xs ++ cs.toList) → w.grownBy w' v.ownBlock → ((Value.slice A' (k + 1) c').ownBlock = v.ownBlock ∨ (Value.slice A' (k + 1) c').ownBlock = some w.heap.size) → wpListIn F n P ops Q rest (a.put o.dst (.slice A' (k + 1) c')) w') : wpListIn F n P ops Q (o :: rest) a w := by
  obtain ⟨ht, i, z, hi, hz, hzs, hsz, h0, hle, hby⟩ := E
  have hb : i.bytes = by_ := by rw [hi] at hby_; simpa using hby_
  refine wpListIn_append_own_at w hgd s x t ho base e i z sz by_ ht hi hz hsz hb hzs h0 v k xs hs hown ⟨g, 0, none⟩ 1 c cs.toList hx (by simpa using hcs) (fun j u hu => ?_) (fun u hu => ?_) hn hn2 hbase (fun v' w' r1 r2 _ r4 => by obtain ⟨A', c', rfl⟩ := own_slice r1; exact h A' c' w' r1 r2 r4)
  · have hadd : (⟨g, 0, none⟩ : Addr).add j = ⟨g, j, none⟩ := by unfold Addr.add; split <;> simp_all
    rw [hadd, hg.cell]; simpa using hu
  · exact List.all_eq_true.1 h1 u hu
/-- likewise outside of rounds -/
theorem wpList_app1w (hgd : o.guard = none) (s x : Operand) (t : TypeId) (ho : o.op = .call { callee := .builtin .append, args := #[s, x], argTypes := #[t, t] })
    (base : Nat) {e sz : Nat} (E : SliceT P t e sz) (by_ : Nat) (hby_ : (P.info? e).map (·.bytes) = some by_) (v : Value) (k : Nat) (xs : List Value) (hs : a.eval s = v) (hown : w.ownsRow base e sz v k xs)
    (g c : Nat) (cs : Array Value) (hx : a.eval x = .slice (some ⟨g, 0, none⟩) 1 c) (hg : Blk w g e cs) (hcs : cs.size = sz) (h1 : cs.toList.all Value.oneCell' = true)
    (hn : k + 1 ≤ maxLen) (hn2 : (k + 1) * by_ ≤ 140737488355328) (hbase : base ≤ w.heap.size)
    (h : ∀ A' c' w', w'.ownsRow base e sz (.slice A' (k + 1) c') (k + 1) (xs ++ cs.toList) → w.grownBy w' v.ownBlock → wpList P ops Q rest (a.put o.dst (.slice A' (k + 1) c')) w') : wpList P ops Q (o :: rest) a w := by
  obtain ⟨ht, i, z, hi, hz, hzs, hsz, h0, hle, hby⟩ := E
  have hb : i.bytes = by_ := by rw [hi] at hby_; simpa using hby_
  refine wpList_append_own w hgd s x t ho base e i z sz by_ ht hi hz hsz hb hzs h0 v k xs hs hown ⟨g, 0, none⟩ 1 c cs.toList hx (by simpa using hcs) (fun j u hu => ?_) (fun u hu => ?_) hn hn2 hbase (fun v' w' r1 r2 _ => by obtain ⟨A', c', rfl⟩ := own_slice r1; exact h A' c' w' r1 r2)
  · have hadd : (⟨g, 0, none⟩ : Addr).add j = ⟨g, j, none⟩ := by unfold Addr.add; split <;> simp_all
    rw [hadd, hg.cell]; simpa using hu
  · exact List.all_eq_true.1 h1 u hu
end
/-! short names for what walks write often (pack.py puts them in place of the long forms) -/
section
variable {P : Program} {ops : Array Oper} {Q : Exit → Act → World → Prop} {md : Region.Mode} {S : World → Prop} {fuel : Nat} {listed : Array Bool} {a : Act} {w : World}
theorem zO (i : Nat) (h1 : Region.ready md ops listed = [i]) (h : wpOp P ops Q i (fun a' w' => S w' ∧ wpAnyH P md ops Q S fuel (listed.setIfInBounds i true) a' w') a w) : wpAnyH P md ops Q S (fuel + 1) listed a w :=
  wpAnyH_all (rs := [i]) h1 (by simp) (List.forall_mem_cons.2 ⟨h, fun _ h => absurd h (by simp)⟩)
theorem zH {S : Nat → Prop} {id : Nat} (hf : P.follows Departure.mixedOrders = true) (h : ∀ Wd, Ext S w Wd → Ext Nothing w Wd → wpAnyH P .any ops Q (fun W' => Ext S w W') ops.size (Array.replicate ops.size false) a Wd) : Code.wp P (Code.region id ops true) Q a w :=
  wp_region_held (S := fun W' => Ext S w W') hf (h w.drew (Ext.drew (Ext.refl _ _)) (Ext.drew (Ext.refl _ _)))
theorem zT (i : Nat) (v : Value) {oi : Oper} (h0 : ops[i]? = some oi) (hk : (Region.noSelect ops && (Region.free md ops listed i && (Region.ready md ops listed).contains i)) = true) (hw : Region.wanted oi (yielded ops a.tmps) = true) (hs : S w) (hq : ∀ (c : List PanicEntry) (a : Act) (w : World), Q (.panic c) (a.put oi.dst v) w → Q (.panic c) a w) (hy : ∀ w, S w → (execOp a.eval oi).run P w = .ok (.value v) w)
    (hn : wpAnyH P md ops Q S fuel (listed.setIfInBounds i true) (a.put oi.dst v) w) : wpAnyH P md ops Q S (fuel + 1) listed a w := by
  simp only [Bool.and_eq_true] at hk
  exact wpAnyH_take h0 hk.1 hk.2.1 hk.2.2 hq (.inl ⟨hw, hy⟩) hs hn
end
end Go.Proofs.YtgjabfpkbcdkcaaGreatDoor
