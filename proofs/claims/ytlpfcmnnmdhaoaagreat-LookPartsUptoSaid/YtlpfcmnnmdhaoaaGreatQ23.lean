/- Parts of the proof: RefPlaces -/
import Derived.StillTailTactics
import Derived.Test.YtlpfcmnnmdhaoaaGreatQ20
import Derived.Test.YtlpfcmnnmdhaoaaGreatQ12
import Derived.Test.YtlpfcmnnmdhaoaaGreatQ05
namespace Go.Proofs.YtlpfcmnnmdhaoaaGreat
set_option linter.unusedVariables false
set_option linter.unusedSimpArgs false
set_option linter.unusedSectionVars false
open Go.RowKit
def sLen : Option Value → Nat
 | some (.slice _ n _) => n
 | _ => 0
def SameQ (s t : StoreV) : Prop := ∃ A n c l nx, t = ({ s with AA := A, nA := n, cA := c, allocs := l, next := nx } : StoreV) ∧ (l.length ≤ 64 ∨ l.length ≤ s.allocs.length)
theorem trim_num {k n a c : Nat} (hk : k < a) (hn : n = a) (hb : n ≤ 2097152) (hc : a ≤ c) : (0 : Int) ≤ (k : Int) ∧ (k : Int) ≤ (c : Int) ∧ (k : Int) + 1 ≤ (n : Int) ∧ wrap64 ((k : Int) + 1) = (k : Int) + 1 ∧ ¬ ((k : Int) < 0) ∧ 0 + k ≤ 67108864 ∧ k + (n - (k + 1)) ≤ 67108864 := by
 refine ⟨by omega, by omega, by omega, by unfold wrap64; omega, by omega, by omega, by omega⟩
theorem Sl.blk {w : World} {sz n b off : Nat} {xs : List (List Value)} (h : Sl w (sz + 1) (some ⟨b, off, none⟩) n xs) (hn : 0 < n) : ∃ q : Unit, b < w.heap.size := by
 obtain ⟨hx, b', off', e, hl, hc⟩ := h.at_ hn
 injection e with e
 injection e with e1 e2
 subst e1
 exact ⟨(), World.block_lt_of_cell? w _ (hc 0 _ (List.getElem?_eq_getElem (by omega)))⟩
theorem Sl.taken {α : Type} {f : α → List Value} {w : World} {sz n b off : Nat} {xs : List α} (h : Sl w sz (some ⟨b, off, none⟩) n (xs.map f)) {k : Nat} (hk : k ≤ n) : Sl w sz (some ⟨b, off, none⟩) k ((xs.take k).map f) := by
 have hl := h.len
 refine ⟨by simp; omega, fun i cs hi => ?_⟩
 rw [List.getElem?_map, List.getElem?_take] at hi
 split at hi
 ·exact h.2 i cs (by rw [List.getElem?_map]; exact hi)
 ·simp at hi
theorem Sl.dropped {α : Type} {f : α → List Value} {w : World} {sz n b off : Nat} {xs : List α} (h : Sl w sz (some ⟨b, off, none⟩) n (xs.map f)) {k : Nat} (hk : k ≤ n) : Sl w sz (some ⟨b, off + k * sz, none⟩) (n - k) ((xs.drop k).map f) := by
 have hl := h.len
 refine ⟨by simp; omega, fun i cs hi => ?_⟩
 rw [List.getElem?_map, List.getElem?_drop] at hi
 obtain ⟨b', off', e, h1, h2⟩ := h.2 (k + i) cs (by rw [List.getElem?_map]; exact hi)
 injection e with e
 injection e with e1 e2
 subst e1
 subst e2
 exact ⟨b, off + k * sz, rfl, h1, fun j u hu => by rw [Nat.add_assoc off, ← Nat.add_mul]; exact h2 j u hu⟩
section
variable {P : Program} {w : World} {ops : Array Oper} {rest : List Oper} {o : Oper} {a : Act} {Q : Exit → Act → World → Prop}
theorem wpList_tailS (hgd : o.guard = none) (t : TypeId) (x lo : Operand) (ho : o.op = .slice t x (some lo) none none) {e sz : Nat} (E : SliceT P t e sz) (b off n c k : Nat) (kv : Int) (hx : a.eval x = .slice (some ⟨b, off, none⟩) n c) (hlo : a.eval lo = .int .i64 kv) (hkv : kv = (k : Int)) (hk : k ≤ n) (hc : n ≤ c)
  (h : ∀ A', (n - k = 0 ∨ A' = some ⟨b, off + k * sz, none⟩) → wpList P ops Q rest (a.put o.dst (.slice A' (n - k) (c - k))) w) : wpList P ops Q (o :: rest) a w := by
 obtain ⟨ht, i', z, hi', hz, hzs, hsz, h0, hle, hby⟩ := E
 subst hkv
 have ht' : P.underlying t = some (.slice (P.elem t)) := by simp [Program.elem, ht]
 have he : P.elem t = e := by simp [Program.elem, ht]
 have hs : ∀ w, (Go.sizeOf e).run P w = .ok sz w := fun w => by simp [sizeOf, typeInfo, hi', hsz]
 refine wpList_plain hgd fun K hK => ?_
 have hr2 : (Instr.slice t (.slice (some ⟨b, off, none⟩) n c) (some (.int .i64 (k : Int))) none none).run P w = .ok (.slice (if c = k then some ⟨b, off, none⟩ else some ⟨b, off + k * sz, none⟩) (n - k) (c - k)) w := by
  rw [run_slice_l w t _ _ _ ht' .i64 (k : Int) (Int.natCast_nonneg k) (Int.ofNat_le.2 hk), he, hs]
  by_cases e1 : c = k
  ·subst e1; simp [Result.andThen, sliced]
  ·by_cases e2 : k = 0
   ·subst e2; simp [Result.andThen, sliced, e1, Addr.add]
   ·simp [Result.andThen, sliced, e1, Addr.add, e2]
 have hr : (execOp a.eval o).run P w = .ok (.value (.slice (if c = k then some ⟨b, off, none⟩ else some ⟨b, off + k * sz, none⟩) (n - k) (c - k))) w := by
  simp only [execOp, ho, Option.map_some, Option.map_none, hx, hlo]
  simp only [Sem.run_bind, Sem.run_map, run_sliceAt_slice _ _ _ _ _ _ ht', hr2, Result.andThen]
  try rfl
 unfold Oper.wp
 rw [hr]
 refine hK _ _ (h _ ?_)
 by_cases e1 : c = k
 ·exact .inl (by omega)
 ·exact .inr (if_neg e1)
end
theorem Sl.tailed {α : Type} {f : α → List Value} {w : World} {sz n b off k : Nat} {xs : List α} {A : Option Addr} (h : Sl w sz (some ⟨b, off, none⟩) n (xs.map f)) (hk : k ≤ n) (hA : n - k = 0 ∨ A = some ⟨b, off + k * sz, none⟩) : Sl w sz A (n - k) ((xs.drop k).map f) := by
 rcases hA with h0 | rfl
 ·have hl := h.len
  rw [h0, List.drop_of_length_le (by omega)]
  exact Sl.nil _ _ _
 ·exact h.dropped hk
set_option maxRecDepth 20000 in
set_option maxHeartbeats 16000000 in
theorem refPlaces (base : Nat) (s : StoreV) (j0 j1 j2 j3 : Int) (jg : List GroupD) (j5 : Int) (j6 : Bool) (GA : Option Addr) (gn gc : Nat) (node : Int) (LA : Option Addr) (ln lc : Nat) (l : List AllocD) (w : World)
  (h : OwnS base w s) (hb : base ≤ w.heap.size) (hN : s.nodes.length ≤ 1048576) (hJs : s.jobs.length ≤ 1048576) (hA : s.allocs.length ≤ 1048576) (hG : Sl w 3 GA gn (jg.map GroupD.cells)) (hgn : gn ≤ 1048576) (hL : Sl w 11 LA ln (l.map AllocD.cells)) (hlm : ln ≤ 1048576) :
  Calls Tryz.prog 63 #[.agg s.arr, .agg #[.int .i64 j0, .int .i64 j1, .int .i64 j2, .int .i64 j3, .slice GA gn gc, .int .i64 j5, .bool j6], .int .i64 node, .slice LA ln lc] w fun e w' => ∃ s', e = .returned (.tuple #[.agg s'.arr, .bool (Fsm.places s.data ⟨j0, j1, j2, j3, jg, j5, j6⟩ node l).2]) ∧ OwnS base w' s' ∧ s'.data = (Fsm.places s.data ⟨j0, j1, j2, j3, jg, j5, j6⟩ node l).1 ∧ SameQ s s' ∧ Ext Nothing w w' := by
 have hx0 : Ext Nothing w (((w.alloc (.cells s.arr 30)).alloc (.cells #[.int .i64 j0, .int .i64 j1, .int .i64 j2, .int .i64 j3, .slice GA gn gc, .int .i64 j5, .bool j6] 39)).alloc (.cells #[.int .i64 0, .int .i64 0, .slice none 0 0, .slice none 0 0, .slice none 0 0, .slice none 0 0, .slice none 0 0, .slice none 0 0, .slice none 0 0] 30)) := Ext.auto
 have hB0 : Blk (((w.alloc (.cells s.arr 30)).alloc (.cells #[.int .i64 j0, .int .i64 j1, .int .i64 j2, .int .i64 j3, .slice GA gn gc, .int .i64 j5, .bool j6] 39)).alloc (.cells #[.int .i64 0, .int .i64 0, .slice none 0 0, .slice none 0 0, .slice none 0 0, .slice none 0 0, .slice none 0 0, .slice none 0 0, .slice none 0 0] 30)) w.heap.size 30 s.arr := (Blk.new w _ _).e0 Ext.auto
 have hJ0 : Blk (((w.alloc (.cells s.arr 30)).alloc (.cells #[.int .i64 j0, .int .i64 j1, .int .i64 j2, .int .i64 j3, .slice GA gn gc, .int .i64 j5, .bool j6] 39)).alloc (.cells #[.int .i64 0, .int .i64 0, .slice none 0 0, .slice none 0 0, .slice none 0 0, .slice none 0 0, .slice none 0 0, .slice none 0 0, .slice none 0 0] 30)) (w.heap.size + 1) 39 #[.int .i64 j0, .int .i64 j1, .int .i64 j2, .int .i64 j3, .slice GA gn gc, .int .i64 j5, .bool j6] := (Blk.new' (w.alloc (.cells s.arr 30)) _ _ (by simp)).e0 Ext.auto
 have hR0 : Blk (((w.alloc (.cells s.arr 30)).alloc (.cells #[.int .i64 j0, .int .i64 j1, .int .i64 j2, .int .i64 j3, .slice GA gn gc, .int .i64 j5, .bool j6] 39)).alloc (.cells #[.int .i64 0, .int .i64 0, .slice none 0 0, .slice none 0 0, .slice none 0 0, .slice none 0 0, .slice none 0 0, .slice none 0 0, .slice none 0 0] 30)) (w.heap.size + 1 + 1) 30 #[.int .i64 0, .int .i64 0, .slice none 0 0, .slice none 0 0, .slice none 0 0, .slice none 0 0, .slice none 0 0, .slice none 0 0, .slice none 0 0] := Blk.new' _ _ _ (by simp)
 go_enter Tryz.func63, Tryz.ntmps63
 go_upto_region 1 with fail
 generalize (((w.alloc (.cells s.arr 30)).alloc (.cells #[.int .i64 j0, .int .i64 j1, .int .i64 j2, .int .i64 j3, .slice GA gn gc, .int .i64 j5, .bool j6] 39)).alloc (.cells #[.int .i64 0, .int .i64 0, .slice none 0 0, .slice none 0 0, .slice none 0 0, .slice none 0 0, .slice none 0 0, .slice none 0 0, .slice none 0 0] 30)) = W at hx0 hB0 hJ0 hR0 ⊢
 have h0 := h.keep0 hx0
 have hsln : Sl W 8 s.AN s.nN (s.nodes.map NodD.cells) := h0.slN
 have hnl := Lib.hid h.nl
 have hnN : s.nN ≤ 67108864 := by have := h.nl; omega
 have hzR : w.heap.size + 1 + 1 < W.heap.size := hR0.lt
 rcases idx_cases (fun x : NodD => x.id == node) s.nodes with ⟨hi, hf, _⟩ | ⟨i, x, hi, hxi, hp, hf, _⟩
 ·have HI := Lib.hid hi
  have HF := Lib.hid (show Fsm.places s.data ⟨j0, j1, j2, j3, jg, j5, j6⟩ node l = (s.data, false) by unfold Fsm.places; rw [show Fsm.nodeAt s.data node = none from hf])
  clear hi hf
  go_upto_region 3 with (first | go_skip | go_guarded | ((with_reducible refine isW ?_); refine wpList_load_blk rfl 30 _ rfl STStore w.heap.size rfl s.arr (show Blk _ _ 30 _ from hB0) rfl ?_) | (go_at_call 12; (with_reducible refine (refAtNode s.AN s.nN s.cN s.nodes node W hsln hnN _ _ _ _ _ _ _ _).mono ?_); rintro e w1 ⟨rfl, hx1⟩; (rw [HI.out])))
  have hBa := hB0.e0 hx1
  have hRa := hR0.e0 hx1
  have hxa := hx0.tr hx1
  go_wp2_with (first | go_skip | go_guarded | ((with_reducible refine isW ?_); refine wpList_load_blk rfl 30 _ rfl STStore w.heap.size rfl s.arr (show Blk _ _ 30 _ from hBa) rfl ?_) | ((with_reducible refine isW ?_); refine wpList_store_blk rfl 30 _ _ rfl STStore (w.heap.size + 1 + 1) rfl s.arr rfl (show Blk _ _ 30 _ from hRa) rfl rfl rfl ?_; intro w9 hBw9 hxw9))
  have hx9 : Ext Nothing w w9 := hxa.trans hxw9 (fun b hb e => absurd (show b = (w.heap.size + 1 + 1) from e) (by omega))
  exact bodyPost_ret (results_cell_tmp rfl STStore (g := (w.heap.size + 1 + 1)) rfl hBw9 rfl) rfl ⟨s, by rw [HF.out]; rfl, h.keep0 hx9, by rw [HF.out], ⟨s.AA, s.nA, s.cA, s.allocs, s.next, rfl, .inr (Nat.le_refl _)⟩, hx9⟩
 ·have HNA := Lib.hid (show Fsm.nodeAt s.data node = some x from hf)
  have HI := Lib.hid hi
  have HXI := Lib.hid hxi
  obtain ⟨gN, curN, hAN0, _, hgbN, hiN, hceN, _⟩ := h0.putN hxi
  have hAN : s.AN = some ⟨gN, 0, none⟩ := hAN0
  have HAN := Lib.hid hAN
  have hi0 : (0 : Int) ≤ (i : Int) := by omega
  have hiN : (i : Int) < s.nN := hiN
  clear hi hf hp hxi hAN hAN0
  obtain ⟨n0, ⟨n1, n2⟩, n3, n4, n5, n6, n7⟩ := x
  go_upto_region 2 with (first | go_skip | go_guarded | ((with_reducible refine isW ?_); refine wpList_load_blk rfl 30 _ rfl STStore w.heap.size rfl s.arr (show Blk _ _ 30 _ from hB0) rfl ?_) | (go_at_call 12; (with_reducible refine (refAtNode s.AN s.nN s.cN s.nodes node W hsln hnN _ _ _ _ _ _ _ _).mono ?_); rintro e w1 ⟨rfl, hx1⟩; (rw [HI.out])))
  have hBa := hB0.e0 hx1
  have hJa := hJ0.e0 hx1
  have hRa := hR0.e0 hx1
  have hxa := hx0.tr hx1
  have hceN1 : ∀ j u, (NodD.cells ⟨n0, ⟨n1, n2⟩, n3, n4, n5, n6, n7⟩)[j]? = some u → w1.cell? ⟨gN, i * 8 + j, none⟩ = some u := fun j u hu => hx1.cell (hceN j u hu) (fun e => e)
  clear hB0 hJ0 hR0 hsln hceN
  have c4 : w1.cell? ⟨w.heap.size, 4, none⟩ = some (.slice (some ⟨gN, 0, none⟩) s.nN s.cN) := by rw [← HAN.out]; exact hBa.cell 4
  have k3 : w1.cell? ⟨gN, i * 8 + 3, none⟩ = some (.bool n3) := hceN1 3 _ rfl
  have k4 : w1.cell? ⟨gN, i * 8 + 4, none⟩ = some (.bool n4) := hceN1 4 _ rfl
  have k6 : w1.cell? ⟨w.heap.size + 1, 6, none⟩ = some (.bool j6) := hJa.cell 6
  have hzR1 : w.heap.size + 1 + 1 < w1.heap.size := hRa.lt
  have hNT : gN < w1.heap.size := (hgbN.e0 hx1).lt
  clear hgbN
  cases n3 with
  | false =>
   have HF := Lib.hid (show Fsm.places s.data ⟨j0, j1, j2, j3, jg, j5, j6⟩ node l = (s.data, false) by unfold Fsm.places; rw [HNA.out]; rfl)
   go_wp2_with (first | go_skip | go_guarded | ((with_reducible refine isW ?_); refine wpList_load_blk rfl 30 _ rfl STStore w.heap.size rfl s.arr (show Blk _ _ 30 _ from hBa) rfl ?_) | ((with_reducible refine isW ?_); refine wpList_store_blk rfl 30 _ _ rfl STStore (w.heap.size + 1 + 1) rfl s.arr rfl (show Blk _ _ 30 _ from hRa) rfl rfl rfl ?_; intro w9 hBw9 hxw9))
   have hx9 : Ext Nothing w w9 := hxa.trans hxw9 (fun b hb e => absurd (show b = (w.heap.size + 1 + 1) from e) (by omega))
   exact bodyPost_ret (results_cell_tmp rfl STStore (g := (w.heap.size + 1 + 1)) rfl hBw9 rfl) rfl ⟨s, by rw [HF.out]; rfl, h.keep0 hx9, by rw [HF.out], ⟨s.AA, s.nA, s.cA, s.allocs, s.next, rfl, .inr (Nat.le_refl _)⟩, hx9⟩
  | true =>
   cases n4 with
   | true =>
    have HF := Lib.hid (show Fsm.places s.data ⟨j0, j1, j2, j3, jg, j5, j6⟩ node l = (s.data, false) by unfold Fsm.places; rw [HNA.out]; rfl)
    go_wp2_with (first | go_skip | go_guarded | ((with_reducible refine isW ?_); refine wpList_load_blk rfl 30 _ rfl STStore w.heap.size rfl s.arr (show Blk _ _ 30 _ from hBa) rfl ?_) | ((with_reducible refine isW ?_); refine wpList_store_blk rfl 30 _ _ rfl STStore (w.heap.size + 1 + 1) rfl s.arr rfl (show Blk _ _ 30 _ from hRa) rfl rfl rfl ?_; intro w9 hBw9 hxw9))
    have hx9 : Ext Nothing w w9 := hxa.trans hxw9 (fun b hb e => absurd (show b = (w.heap.size + 1 + 1) from e) (by omega))
    exact bodyPost_ret (results_cell_tmp rfl STStore (g := (w.heap.size + 1 + 1)) rfl hBw9 rfl) rfl ⟨s, by rw [HF.out]; rfl, h.keep0 hx9, by rw [HF.out], ⟨s.AA, s.nA, s.cA, s.allocs, s.next, rfl, .inr (Nat.le_refl _)⟩, hx9⟩
   | false =>
    cases j6 with
    | true =>
     have HF := Lib.hid (show Fsm.places s.data ⟨j0, j1, j2, j3, jg, j5, true⟩ node l = (s.data, false) by unfold Fsm.places; rw [HNA.out]; rfl)
     go_wp2_with (first | go_skip | go_guarded | ((with_reducible refine isW ?_); refine wpList_load_blk rfl 30 _ rfl STStore w.heap.size rfl s.arr (show Blk _ _ 30 _ from hBa) rfl ?_) | ((with_reducible refine isW ?_); refine wpList_store_blk rfl 30 _ _ rfl STStore (w.heap.size + 1 + 1) rfl s.arr rfl (show Blk _ _ 30 _ from hRa) rfl rfl rfl ?_; intro w9 hBw9 hxw9))
     have hx9 : Ext Nothing w w9 := hxa.trans hxw9 (fun b hb e => absurd (show b = (w.heap.size + 1 + 1) from e) (by omega))
     exact bodyPost_ret (results_cell_tmp rfl STStore (g := (w.heap.size + 1 + 1)) rfl hBw9 rfl) rfl ⟨s, by rw [HF.out]; rfl, h.keep0 hx9, by rw [HF.out], ⟨s.AA, s.nA, s.cA, s.allocs, s.next, rfl, .inr (Nat.le_refl _)⟩, hx9⟩
    | false =>
     have HF := Lib.hid (show Fsm.places s.data ⟨j0, j1, j2, j3, jg, j5, false⟩ node l = match Fsm.placeAll ⟨j0, j1, j2, j3, jg, j5, false⟩ ⟨n0, ⟨n1, n2⟩, true, false, n5, n6, n7⟩ (l.filter (fun x => x.node == node)) s.data with | none => (s.data, false) | some t => (match Fsm.trim t.jobs t.allocs.length t.allocs with | none => (s.data, false) | some m => ({ t with allocs := m }, true)) by unfold Fsm.places; rw [HNA.out]; rfl)
     go_upto_region 5 with (first | go_skip | go_guarded | ((with_reducible refine isW ?_); refine wpList_load_blk rfl 30 _ rfl STStore w.heap.size rfl s.arr (show Blk _ _ 30 _ from hBa) rfl ?_))
     have hx4 : Ext Nothing w1 (w1.alloc (.cells s.arr 30)) := Ext.auto
     have hT4 : Blk (w1.alloc (.cells s.arr 30)) w1.heap.size 30 s.arr := Blk.new _ _ _
     have hB4 := hBa.e0 hx4
     have hJ4 := hJa.e0 hx4
     have hR4 := hRa.e0 hx4
     have hxw4 := hxa.tr hx4
     have hN4 : ∀ j u, (NodD.cells ⟨n0, ⟨n1, n2⟩, true, false, n5, n6, n7⟩)[j]? = some u → (w1.alloc (.cells s.arr 30)).cell? ⟨gN, i * 8 + j, none⟩ = some u := fun j u hu => hx4.cell (hceN1 j u hu) (fun e => e)
     clear hceN1 c4 k3 k4 k6 hBa hJa hRa hxa hx4 hx1 h0 hx0 hnN
     generalize htt : w1.heap.size = T at hT4 hzR1 hNT ⊢
     generalize (w1.alloc (.cells s.arr 30)) = w4 at hT4 hB4 hJ4 hR4 hxw4 hN4 ⊢
     clear htt
     have hO4 := h.keep0 hxw4
     have hbw4 : base ≤ w4.heap.size := by have := hxw4.size; omega
     have hln := Lib.hid hL.len
     have hal0 := Lib.hid h.al
     go_wp2
     go_loopw [12, 13] (fun ki kb wr => ∃ t : Nat, t ≤ ln ∧ ki = .int .i64 t ∧ ∃ A n ca al nx, OwnS base wr ({ s with AA := A, nA := n, cA := ca, allocs := al, next := nx } : StoreV) ∧ Fsm.placeT ⟨j0, j1, j2, j3, jg, j5, false⟩ ⟨n0, ⟨n1, n2⟩, true, false, n5, n6, n7⟩ l node s.data t = some ({ s with AA := A, nA := n, cA := ca, allocs := al, next := nx } : StoreV).data ∧ al.length ≤ s.allocs.length + t ∧ Blk wr T 30 ({ s with AA := A, nA := n, cA := ca, allocs := al, next := nx } : StoreV).arr ∧ Ext (fun q => q = T) w4 wr) (fun ki _ _ => ln - (intOf ki).toNat)
     case atStart => exact ⟨0, Nat.zero_le _, rfl, s.AA, s.nA, s.cA, s.allocs, s.next, hO4, Fsm.placeT_zero _ _ _ _ _, Nat.le_refl _, hT4, Ext.refl _ _⟩
     case round =>
      obtain ⟨t, ht, rfl, A, n, ca, al, nx, hO, hD, hLn, hT, hx⟩ := hrel
      have hB := hB4.ext hx (fun e => absurd (show w.heap.size = T from e) (by omega))
      have hJr := hJ4.ext hx (fun e => absurd (show (w.heap.size + 1) = T from e) (by omega))
      have hR := hR4.ext hx (fun e => absurd (show (w.heap.size + 1 + 1) = T from e) (by omega))
      have hxw : Ext Nothing w wr := hxw4.trans hx (fun b hb e => absurd (show b = T from e) (by omega))
      clear hO4 hT4 hJ4
      by_cases hlt : t < ln
      ·obtain ⟨hjn, b, off, hLe, hlce⟩ := hL.get hxw hlt
       have hxt : l[t]? = some l[t] := List.getElem?_eq_getElem hjn
       generalize l[t] = x at hlce hxt
       obtain ⟨x0, x1, x2, x3, x4, x5, x6, ⟨x7, x8⟩, x9, x10⟩ := x
       subst hLe
       have hk0 : (0 : Int) ≤ (t : Int) := by omega
       have hk1 : (t : Int) < ln := by omega
       have HT := Lib.hid hlt
       have HXT := Lib.hid hxt
       have HD := Lib.hid hD
       have HLN := Lib.hid hLn
       clear hxt hD hLn
       have l5 : wr.cell? ⟨b, off + t * 11 + 5, none⟩ = some (.int .i64 x5) := hlce 5 _ rfl
       cases s1 : (x5 != node) with
       | true =>
        have HS := Lib.hid ((Fsm.placeT_skip (j := ⟨j0, j1, j2, j3, jg, j5, false⟩) (n := ⟨n0, ⟨n1, n2⟩, true, false, n5, n6, n7⟩) (s := s.data) HXT.out (show (x5 == node) = false by simpa using s1)).trans HD.out)
        go_wp2_with (first | go_skip | go_guarded)
        go_roundw
        case rel => exact ⟨t + 1, HT.out, by go_num, A, n, ca, al, nx, hO, HS.out, by have := HLN.out; omega, hT, hx⟩
        case measure => have := HT.out; simp [intOf]; omega
       | false =>
        have HE := Lib.hid (show (x5 == node) = true by simpa using s1)
        have hNr : ∀ j u, (#[.int .i64 n0, .int .i64 n1, .int .i64 n2, .bool true, .bool false, .int .i64 n5, .int .i64 n6, .int .i64 n7] : Array Value).toList[j]? = some u → wr.cell? ⟨gN, i * 8 + j, none⟩ = some u := fun j u hu => hx.cell (hN4 j u hu) (fun e => absurd (show gN = T from e) (by omega))
        have hXr : ∀ j u, (#[.int .i64 x0, .int .i64 x1, .int .i64 x2, .int .i64 x3, .int .i64 x4, .int .i64 x5, .int .i64 x6, .int .i64 x7, .int .i64 x8, .bool x9, .int .i64 x10] : Array Value).toList[j]? = some u → wr.cell? ⟨b, off + t * 11 + j, none⟩ = some u := hlce
        have hbw : b < w.heap.size := by obtain ⟨q, hq⟩ := hL.blk (show 0 < ln by omega); exact hq
        have c4 : wr.cell? ⟨w.heap.size, 4, none⟩ = some (.slice (some ⟨gN, 0, none⟩) s.nN s.cN) := by rw [← HAN.out]; exact hB.cell 4
        have HNR := Lib.hid hNr
        have HXR := Lib.hid hXr
        clear hNr hXr hlce
        go_upto_region 10 with (first | go_skip | go_guarded)
        clear l5
        refine zH (S := fun q => q = T) (by kernel_rfl) (fun Wd hd hd0 => ?_)
        refine zT 1 (.agg #[.int .i64 j0, .int .i64 j1, .int .i64 j2, .int .i64 j3, .slice GA gn gc, .int .i64 j5, .bool false]) rfl (by kernel_rfl) (by rfl) hd (fun _ _ _ h => h) ?_ ?_
        ·intro W' hS'
         exact run_load_struct (sz := 7) (b := w.heap.size + 1) (off := 0) rfl STJob (by go_simp) (fun j u hu => by rw [Nat.zero_add, (hJr.ext hS' (fun e => absurd (show w.heap.size + 1 = T from e) (by omega))).cell]; simpa using hu) rfl
        refine zT 2 (.pointer (some ⟨w.heap.size, 4, none⟩)) rfl (by kernel_rfl) (by rfl) hd (fun _ _ _ h => h) ?_ ?_
        ·intro W' hS'
         go_simp
        refine zT 3 (.slice (some ⟨gN, 0, none⟩) s.nN s.cN) rfl (by kernel_rfl) (by rfl) hd (fun _ _ _ h => h) ?_ ?_
        ·intro W' hS'
         have q3 : W'.cell? ⟨w.heap.size, 4, none⟩ = some (.slice (some ⟨gN, 0, none⟩) s.nN s.cN) := hS'.cell c4 (fun e => absurd (show w.heap.size = T from e) (by omega))
         go_simp
        refine zT 4 (.int .i64 (i : Int)) rfl (by kernel_rfl) (by rfl) hd (fun _ _ _ h => h) ?_ ?_
        ·intro W' hS'
         go_simp
        refine zT 5 (.pointer (some ⟨gN, i * 8, none⟩)) rfl (by kernel_rfl) (by rfl) hd (fun _ _ _ h => h) ?_ ?_
        ·intro W' hS'
         go_simp
        refine zT 6 (.agg #[.int .i64 n0, .int .i64 n1, .int .i64 n2, .bool true, .bool false, .int .i64 n5, .int .i64 n6, .int .i64 n7]) rfl (by kernel_rfl) (by rfl) hd (fun _ _ _ h => h) ?_ ?_
        ·intro W' hS'
         exact run_load_struct (sz := 8) (b := gN) (off := i * 8) rfl STNode (by go_simp) (fun j u hu => hS'.cell (HNR.out j u hu) (fun e => absurd (show gN = T from e) (by omega))) rfl
        refine zT 7 (.slice (some ⟨b, off, none⟩) ln lc) rfl (by kernel_rfl) (by rfl) hd (fun _ _ _ h => h) ?_ ?_
        ·intro W' hS'
         go_simp
        refine zT 8 (.int .i64 (t : Int)) rfl (by kernel_rfl) (by rfl) hd (fun _ _ _ h => h) ?_ ?_
        ·intro W' hS'
         go_simp
        refine zT 9 (.pointer (some ⟨b, off + t * 11, none⟩)) rfl (by kernel_rfl) (by rfl) hd (fun _ _ _ h => h) ?_ ?_
        ·intro W' hS'
         go_simp
        refine zT 10 (.agg #[.int .i64 x0, .int .i64 x1, .int .i64 x2, .int .i64 x3, .int .i64 x4, .int .i64 x5, .int .i64 x6, .int .i64 x7, .int .i64 x8, .bool x9, .int .i64 x10]) rfl (by kernel_rfl) (by rfl) hd (fun _ _ _ h => h) ?_ ?_
        ·intro W' hS'
         exact run_load_struct (sz := 11) (b := b) (off := off + t * 11) rfl STAlloc (by go_simp) (fun j u hu => hS'.cell (HXR.out j u hu) (fun e => absurd (show b = T from e) (by omega))) rfl
        simp only [Act.put, zA, zB, zC, zD, zE, zF]
        have hOq := hO.keep0 hd0
        have hTq := hT.e0 hd0
        have hxwq := hxw.tr hd0
        have hbq : base ≤ Wd.heap.size := by have := hxwq.size; omega
        have hGq := hG.ext0 hxwq
        have hAl3 : ({ s with AA := A, nA := n, cA := ca, allocs := al, next := nx } : StoreV).allocs.length ≤ 16777216 := by show al.length ≤ _; have := HLN.out; omega
        refine zO 0 (by kernel_rfl) ?_
        refine wpOp_val (v := .agg ({ s with AA := A, nA := n, cA := ca, allocs := al, next := nx } : StoreV).arr) (w' := Wd) rfl (by rfl) (by exact run_load_blk rfl STStore (by go_simp) hTq rfl) ⟨hd, ?_⟩
        (try simp only [Act.put, zA, zB, zC, zD, zE, zF])
        refine zO 11 (by kernel_rfl) ?_
        refine wpOp_call (f := 81) (args := #[.agg ({ s with AA := A, nA := n, cA := ca, allocs := al, next := nx } : StoreV).arr, .agg #[.int .i64 j0, .int .i64 j1, .int .i64 j2, .int .i64 j3, .slice GA gn gc, .int .i64 j5, .bool false], .agg #[.int .i64 n0, .int .i64 n1, .int .i64 n2, .bool true, .bool false, .int .i64 n5, .int .i64 n6, .int .i64 n7], .agg #[.int .i64 x0, .int .i64 x1, .int .i64 x2, .int .i64 x3, .int .i64 x4, .int .i64 x5, .int .i64 x6, .int .i64 x7, .int .i64 x8, .bool x9, .int .i64 x10]]) rfl (by rfl) (by go_simp) ((refPlace base ({ s with AA := A, nA := n, cA := ca, allocs := al, next := nx } : StoreV) j0 j1 j2 j3 jg j5 false GA gn gc n0 n1 n2 true false n5 n6 n7 x0 x1 x2 x3 x4 x5 x6 x7 x8 x9 x10 Wd hOq hbq hAl3 hGq hgn).mono ?_)
        rintro e w2 ⟨s3, rfl, hO3, hD3, ⟨A3, m3, c3, al3, nx3, rfl, hl3⟩, hx2⟩
        have hT2 := hTq.e0 hx2
        have hd2 := hd.trans hx2 (fun _ _ e => e.elim)
        have hd02 := hd0.tr hx2
        generalize hm : Fsm.mayP ({ s with AA := A, nA := n, cA := ca, allocs := al, next := nx } : StoreV).data ⟨j0, j1, j2, j3, jg, j5, false⟩ ⟨n0, ⟨n1, n2⟩, true, false, n5, n6, n7⟩ ⟨x0, x1, x2, x3, x4, x5, x6, ⟨x7, x8⟩, x9, x10⟩ = mp
        have HM := Lib.hid hm
        clear hm
        refine ⟨_, rfl, hd2, ?_⟩
        simp only [Act.put, zA, zB, zC, zD, zE, zF]
        refine zO 12 (by kernel_rfl) ?_
        refine wpOp_val (v := .tuple #[.agg ({ s with AA := A3, nA := m3, cA := c3, allocs := al3, next := nx3 } : StoreV).arr, .bool mp]) (w' := w2) rfl (by rfl) (by go_simp) ⟨hd2, ?_⟩
        (try simp only [Act.put, zA, zB, zC, zD, zE, zF])
        refine zT 13 (.agg ({ s with AA := A3, nA := m3, cA := c3, allocs := al3, next := nx3 } : StoreV).arr) rfl (by kernel_rfl) (by rfl) hd2 (fun _ _ _ h => h) ?_ ?_
        ·intro W' hS'
         go_simp
        refine zT 14 (.bool mp) rfl (by kernel_rfl) (by rfl) hd2 (fun _ _ _ h => h) ?_ ?_
        ·intro W' hS'
         go_simp
        simp only [Act.put, zA, zB, zC, zD, zE, zF]
        refine zO 15 (by kernel_rfl) ?_
        refine wpOp_store (p := T) (cs := ({ s with AA := A3, nA := m3, cA := c3, allocs := al3, next := nx3 } : StoreV).arr) rfl (by rfl) rfl (by go_simp) (by go_simp) hT2 rfl STStore rfl rfl (fun w5 hBw5 hxw5 => ?_)
        have hd5 := hd2.trans hxw5 (fun q hq e => e)
        refine ⟨hd5, ?_⟩
        simp only [Act.put, zA, zB, zC, zD, zE, zF]
        refine zO 16 (by kernel_rfl) ?_
        refine wpOp_val (v := .bool mp) (w' := w5) rfl (by rfl) (by go_simp) ⟨hd5, ?_⟩
        (try simp only [Act.put, zA, zB, zC, zD, zE, zF])
        refine wpAnyH_done (by kernel_rfl) ?_ _
        (try simp only [Act.put, zA, zB, zC, zD, zE, zF])
        have hx5 : Ext (fun q => q = T) wr w5 := (hd02.mono (fun _ _ e => e.elim)).trans hxw5 (fun b hb e => e)
        have hO5 := hO3.keep hxw5 (Apart.one hT2 (by decide))
        clear hd hd0 hd2 hd02 hd5 hTq hOq hGq
        cases mp with
        | false =>
         have HF2 := Lib.hid (show Fsm.places s.data ⟨j0, j1, j2, j3, jg, j5, false⟩ node l = (s.data, false) by rw [HF.out, Fsm.placeT_none ((Fsm.placeT_step (j := ⟨j0, j1, j2, j3, jg, j5, false⟩) (n := ⟨n0, ⟨n1, n2⟩, true, false, n5, n6, n7⟩) (s := s.data) HXT.out HE.out HD.out).trans (by rw [HM.out]; rfl))])
         have hB5 := hB.ext hx5 (fun e => absurd (show w.heap.size = T from e) (by omega))
         have hR5 := hR.ext hx5 (fun e => absurd (show (w.heap.size + 1 + 1) = T from e) (by omega))
         have hxw5w : Ext Nothing w w5 := hxw.trans hx5 (fun b hb e => absurd (show b = T from e) (by omega))
         go_wp2_with (first | go_skip | go_guarded | ((with_reducible refine isW ?_); refine wpList_load_blk rfl 30 _ rfl STStore w.heap.size rfl s.arr (show Blk _ _ 30 _ from hB5) rfl ?_) | ((with_reducible refine isW ?_); refine wpList_store_blk rfl 30 _ _ rfl STStore (w.heap.size + 1 + 1) rfl s.arr rfl (show Blk _ _ 30 _ from hR5) rfl rfl rfl ?_; intro w9 hBw9 hxw9))
         have hx9 : Ext Nothing w w9 := hxw5w.trans hxw9 (fun b hb e => absurd (show b = (w.heap.size + 1 + 1) from e) (by omega))
         exact bodyPost_ret (results_cell_tmp rfl STStore (g := (w.heap.size + 1 + 1)) rfl hBw9 rfl) rfl ⟨s, by rw [HF2.out]; rfl, h.keep0 hx9, by rw [HF2.out], ⟨s.AA, s.nA, s.cA, s.allocs, s.next, rfl, .inr (Nat.le_refl _)⟩, hx9⟩
        | true =>
         have HS := Lib.hid ((Fsm.placeT_step (j := ⟨j0, j1, j2, j3, jg, j5, false⟩) (n := ⟨n0, ⟨n1, n2⟩, true, false, n5, n6, n7⟩) (s := s.data) HXT.out HE.out HD.out).trans (show _ = some ({ s with AA := A3, nA := m3, cA := c3, allocs := al3, next := nx3 } : StoreV).data by rw [HM.out, if_pos rfl, hD3, placeR_yes HM.out]))
         go_wp2_with (first | go_skip | go_guarded)
         go_roundw
         case rel => exact ⟨t + 1, HT.out, by go_num, A3, m3, c3, al3, nx3, hO5, HS.out, by have := HLN.out; have : al3.length ≤ al.length + 1 := hl3; omega, hBw5, hx.trans hx5 (fun b hb e => e)⟩
         case measure => have := HT.out; simp [intOf]; omega
      ·have hnl2 : ¬ ((t : Int) < ln) := by omega
       have HP := Lib.hid (show Fsm.placeAll ⟨j0, j1, j2, j3, jg, j5, false⟩ ⟨n0, ⟨n1, n2⟩, true, false, n5, n6, n7⟩ (l.filter (fun x => x.node == node)) s.data = some ({ s with AA := A, nA := n, cA := ca, allocs := al, next := nx } : StoreV).data from (Fsm.placeT_all (by have := hln.out; omega)).symm.trans hD)
       have HF3 := Lib.hid (show Fsm.places s.data ⟨j0, j1, j2, j3, jg, j5, false⟩ node l = (match Fsm.trim (s.jobs.map (·.1)) al.length al with | none => (s.data, false) | some m => ({ ({ s with AA := A, nA := n, cA := ca, allocs := al, next := nx } : StoreV).data with allocs := m }, true)) by rw [HF.out, HP.out]; rfl)
       have hL1 : al.length ≤ 2097152 := by omega
       clear hD hLn HF HP hln
       obtain ⟨wo, rfl⟩ : ∃ wo : World, wo = wr := ⟨_, rfl⟩
       go_wp2
       go_loopw [14, 15, 16, 17] (fun _ _ _ _ wr2 => ∃ A2 n2 c2 a2, OwnS base wr2 ({ s with AA := A2, nA := n2, cA := c2, allocs := a2, next := nx } : StoreV) ∧ Fsm.trim (s.jobs.map (·.1)) al.length al = Fsm.trim (s.jobs.map (·.1)) a2.length a2 ∧ a2.length ≤ 2097152 ∧ Blk wr2 T 30 ({ s with AA := A2, nA := n2, cA := c2, allocs := a2, next := nx } : StoreV).arr ∧ Ext (fun q => q = T) w4 wr2) (fun _ _ _ _ wr2 => sLen (wr2.cell? ⟨T, 5, none⟩))
       case atStart => exact ⟨A, n, ca, al, hO, rfl, hL1, hT, hx⟩
       case round =>
        obtain ⟨wr2, rfl⟩ : ∃ wr2 : World, wr2 = wr := ⟨_, rfl⟩
        obtain ⟨A2, n2, c2, a2, hO2, hTr, hL2, hT2, hx2⟩ := hrel
        have hB2 := hB4.ext hx2 (fun e => absurd (show w.heap.size = T from e) (by omega))
        have hR2 := hR4.ext hx2 (fun e => absurd (show (w.heap.size + 1 + 1) = T from e) (by omega))
        have hxw2 : Ext Nothing w wr2 := hxw4.trans hx2 (fun b hb e => absurd (show b = T from e) (by omega))
        have k5 : wr2.cell? ⟨T, 5, none⟩ = some (.slice A2 n2 c2) := hT2.cell 5
        have hn2 := Lib.hid (show n2 = a2.length from hO2.al)
        have HTR := Lib.hid hTr
        clear hTr hT hO hx hB hR hxw hJr
        by_cases hgt : 64 < n2
        ·have hg : decide (64 < (n2 : Int)) = true := by simp; omega
         have HGT := Lib.hid hgt
         have hn3 : n2 ≤ 2097152 := by have := hn2.out; omega
         have hw1 : wrap64 ((n2 : Int) - 1) = (n2 : Int) - 1 := by unfold wrap64; omega
         go_upto_region 16 with (first | go_skip | go_guarded)
         go_loopw [14, 15, 16] (fun ov iv sv wr3 => ∃ k : Nat, k ≤ n2 ∧ iv = .int .i64 ((k : Int) - 1) ∧ ov = .int .i64 (Fsm.fromB (fun a => !Fsm.keptB (s.jobs.map (·.1)) a) a2 k) ∧ Ext Nothing wr2 wr3) (fun ov iv sv _ => (intOf iv + 1).toNat)
         case atStart => exact ⟨n2, Nat.le_refl _, by rw [← hw1], by rw [Fsm.fromB_end (by have := hn2.out; omega)], Ext.refl _ _⟩
         case round =>
          obtain ⟨wr3, rfl⟩ : ∃ wr3 : World, wr3 = wr := ⟨_, rfl⟩
          obtain ⟨k, hk, rfl, rfl, hx3⟩ := hrel
          have hT3 := hT2.e0 hx3
          have hO3 := hO2.keep0 hx3
          have k53 : wr3.cell? ⟨T, 5, none⟩ = some (.slice A2 n2 c2) := hT3.cell 5
          rcases Nat.eq_zero_or_pos k with rfl | hkp
          ·have hge : decide (0 ≤ ((0 : Nat) : Int) - 1) = false := by simp
           have hB3 := hB2.e0 hx3
           have hR3 := hR2.e0 hx3
           have hxw3 := hxw2.tr hx3
           clear hw1
           rcases Fsm.fromB_zero (p := (fun a => !Fsm.keptB (s.jobs.map (·.1)) a)) (l := a2) with ⟨hf0, hfn⟩ | ⟨k, hf0, hfs, hkl⟩
           ·have HFO := Lib.hid hf0
            have HF4 := Lib.hid (show Fsm.places s.data ⟨j0, j1, j2, j3, jg, j5, false⟩ node l = (s.data, false) by rw [HF3.out, HTR.out, Fsm.trim_stuck _ (by have := hn2.out; have := HGT.out; omega) hfn])
            clear hf0 hfn
            rw [HFO.out]
            go_wp2_with (first | go_skip | go_guarded | ((with_reducible refine isW ?_); refine wpList_load_blk rfl 30 _ rfl STStore w.heap.size rfl s.arr (show Blk _ _ 30 _ from hB3) rfl ?_) | ((with_reducible refine isW ?_); refine wpList_store_blk rfl 30 _ _ rfl STStore (w.heap.size + 1 + 1) rfl s.arr rfl (show Blk _ _ 30 _ from hR3) rfl rfl rfl ?_; intro w9 hBw9 hxw9))
            have hx9 : Ext Nothing w w9 := hxw3.trans hxw9 (fun b hb e => absurd (show b = (w.heap.size + 1 + 1) from e) (by omega))
            exact bodyPost_ret (results_cell_tmp rfl STStore (g := (w.heap.size + 1 + 1)) rfl hBw9 rfl) rfl ⟨s, by rw [HF4.out]; rfl, h.keep0 hx9, by rw [HF4.out], ⟨s.AA, s.nA, s.cA, s.allocs, s.next, rfl, .inr (Nat.le_refl _)⟩, hx9⟩
           ·have HFO := Lib.hid hf0
            have HFS := Lib.hid hfs
            have HKL := Lib.hid hkl
            clear hf0 hfs
            obtain ⟨g, cur, hAg, hob, hgb, _, _, _⟩ := hO3.putA (show ({ s with AA := A2, nA := n2, cA := c2, allocs := a2, next := nx } : StoreV).allocs[k]? = some a2[k] from List.getElem?_eq_getElem hkl)
            have hAg : A2 = some ⟨g, 0, none⟩ := hAg
            clear hkl
            subst hAg
            obtain ⟨_, cc0, hcv, hcc⟩ := own_cap hO3.a
            injection hcv with hc1 hc2 hc3
            have hcap : a2.length ≤ c2 := by have e1 : c2 = cc0 := hc3; have e2 : a2.length ≤ cc0 := hcc; omega
            clear hc1 hc2 hc3 hcc
            have hsl : Sl wr3 11 (some ⟨g, 0, none⟩) n2 (a2.map AllocD.cells) := hO3.slA
            have hs1 := hsl.taken (k := k) (hn2.out ▸ Nat.le_of_lt HKL.out)
            have hs2 := hsl.dropped (k := k + 1) (hn2.out ▸ HKL.out)
            obtain ⟨hk0, hkc, hk2, hkw, hkn, hkb1, hkb2⟩ := trim_num HKL.out hn2.out hn3 hcap
            have HKW := Lib.hid (show wrap64 ((k : Int) + 1) = ((k + 1 : Nat) : Int) from hkw)
            have HB1 := Lib.hid hkb1
            have HB2 := Lib.hid hkb2
            clear hkb1 hkb2 hkw hk2
            rw [HFO.out]
            go_upto_region 24 with (first | go_skip | go_guarded)
            go_upto_region 25 with (first | go_skip | go_guarded | (at_builtin; refine wpList_appS rfl _ _ 25 rfl wr3.heap.size SRAlloc (.slice none 0 0) 0 [] rfl (World.ownsRow_nil ..) (some ⟨g, 0, none⟩) k c2 ((a2.take k).map AllocD.cells) rfl hs1 (cellsOne (fun _ => rfl) _) HB1.out (Nat.le_refl _) ?_; intro A5 c5 wa oa ga; simp only [Nat.zero_add]))
            have hxa : Ext Nothing wr3 wa := Ext.of_grown (S := Nothing) ga (fun b e => by simp [Value.ownBlock] at e)
            have o1 : wa.ownsRow wr3.heap.size 58 11 (.slice A5 k c5) k ((a2.take k).flatMap AllocD.cells) := by have o := oa; rw [Nat.zero_add, List.nil_append, ← List.flatMap_def] at o; exact o
            have hTa := hT3.e0 hxa
            have k5a : wa.cell? ⟨T, 5, none⟩ = some (.slice (some ⟨g, 0, none⟩) n2 c2) := hTa.cell 5
            have hs2a := hs2.ext0 hxa
            have hza := hxa.size
            clear oa ga k53 k5
            have hk1n : k + 1 ≤ n2 := hn2.out ▸ HKL.out
            have HK1 := Lib.hid hk1n
            have hnc : n2 ≤ c2 := hn2.out ▸ hcap
            have HNC := Lib.hid hnc
            clear hk1n hnc
            go_upto_region 26 with (first | go_skip | go_guarded | ((with_reducible refine isW ?_); refine wpList_tailS rfl 25 _ _ rfl SRAlloc g 0 n2 c2 (k + 1) (wrap64 ((k : Int) + 1)) rfl rfl HKW.out HK1.out HNC.out ?_; intro A9 hA9; have hs9 := (hsl.ext0 hxa).tailed HK1.out hA9) | (at_builtin; refine wpList_appS rfl _ _ 25 rfl wr3.heap.size SRAlloc (.slice A5 k c5) k ((a2.take k).flatMap AllocD.cells) rfl o1 A9 (n2 - (k + 1)) (c2 - (k + 1)) ((a2.drop (k + 1)).map AllocD.cells) rfl hs9 (cellsOne (fun _ => rfl) _) HB2.out hza ?_; intro A6 c6 wb ob gb))
            generalize hm6 : k + (n2 - (k + 1)) = m6 at ob gb ⊢
            have HM6 := Lib.hid hm6
            clear hm6
            have hxb : Ext (fun q => (Value.slice A5 k c5).ownBlock = some q) wa wb := Ext.of_grown gb (fun _ e => e)
            have hxab : Ext Nothing wr3 wb := hxa.trans hxb (fun q hq e => absurd (own_ge o1 e) (by omega))
            have hTb := hTa.ext hxb (own_ne o1 hTa (by decide))
            have t5b : wb.cell? ⟨T, 5, none⟩ = some (.slice (some ⟨g, 0, none⟩) n2 c2) := hTb.cell 5
            have t5f : wb.frozen? ⟨T, 5, none⟩ = false := hTb.frozen 5
            have hlen : (a2.take k ++ a2.drop (k + 1)).length = m6 := by rw [List.length_append, List.length_take, List.length_drop]; have := HM6.out; have := hn2.out; have := HKL.out; omega
            have ob2 : wb.ownsRow wr3.heap.size 58 11 (.slice A6 (a2.take k ++ a2.drop (k + 1)).length c6) (a2.take k ++ a2.drop (k + 1)).length ((a2.take k ++ a2.drop (k + 1)).flatMap AllocD.cells) := by rw [hlen, List.flatMap_append, List.flatMap_def (l := a2.drop (k + 1))]; exact ob
            have hb3 : base ≤ wr3.heap.size := by have := hxw3.size; omega
            have hO6 := hO3.wA hxab Apart.none (own_base ob2 hb3)
            have hO7 := hO6.keep (Ext.set1 wb T 5 (.slice A6 m6 c6)) (Apart.one hTb (by decide))
            have he : ({ s with AA := A6, nA := m6, cA := c6, allocs := (a2.take k ++ a2.drop (k + 1)), next := nx } : StoreV) = StoreV.setA ({ s with AA := some ⟨g, 0, none⟩, nA := n2, cA := c2, allocs := a2, next := nx } : StoreV) A6 c6 (a2.take k ++ a2.drop (k + 1)) := by simp only [StoreV.setA, hlen]
            have hTc := hTb.set_ 5 (.slice A6 m6 c6)
            have HL6 := Lib.hid hlen
            have hm62 : m6 < n2 := by have := HM6.out; have := hn2.out; have := HKL.out; omega
            have HM62 := Lib.hid hm62
            have HE6 := Lib.hid he
            clear hlen hm62 he ob
            have hx7 : Ext (fun q => q = T) w4 (wb.setCell ⟨T, 5, none⟩ (.slice A6 m6 c6)) := ((hx2.trans hx3 (fun _ _ e => e.elim)).trans hxab (fun _ _ e => e.elim)).trans (Ext.set1 wb T 5 _) (fun b hb e => e)
            have HTS := Lib.hid (HTR.out.trans (Fsm.trim_step (s.jobs.map (·.1)) (show 64 < a2.length from hn2.out ▸ HGT.out) HFS.out HKL.out))
            go_wp2_with (first | go_skip | go_guarded)
            go_roundw
            case rel => exact ⟨A6, m6, c6, _, (by rw [HE6.out]; exact hO7), HTS.out, by rw [HL6.out]; have := HM62.out; omega, hTc, hx7⟩
            case measure => rw [hTc.cell 5, hT2.cell 5]; exact HM62.out
          ·obtain ⟨q, rfl⟩ : ∃ q, k = q + 1 := ⟨k - 1, by omega⟩
           rw [show (((q + 1 : Nat) : Int) - 1) = (q : Int) from by omega]
           have hge : decide ((0 : Int) ≤ (q : Int)) = true := by simp
           have hqn : q < a2.length := by have := hn2.out; omega
           have hy : a2[q]? = some a2[q] := List.getElem?_eq_getElem hqn
           generalize a2[q] = y at hy
           obtain ⟨y0, y1, y2, y3, y4, y5, y6, ⟨y7, y8⟩, y9, y10⟩ := y
           obtain ⟨g, cur, hAg, _, _, hq1, hce, _⟩ := hO3.putA (show ({ s with AA := A2, nA := n2, cA := c2, allocs := a2, next := nx } : StoreV).allocs[q]? = some ⟨y0, y1, y2, y3, y4, y5, y6, ⟨y7, y8⟩, y9, y10⟩ from hy)
           have hAg : A2 = some ⟨g, 0, none⟩ := hAg
           have HAG := Lib.hid hAg
           have hq1 : (q : Int) < n2 := hq1
           have hq0 : (0 : Int) ≤ (q : Int) := by omega
           have HY := Lib.hid hy
           have HQ := Lib.hid hk
           have HCE := Lib.hid (show ∀ j u, (#[.int .i64 y0, .int .i64 y1, .int .i64 y2, .int .i64 y3, .int .i64 y4, .int .i64 y5, .int .i64 y6, .int .i64 y7, .int .i64 y8, .bool y9, .int .i64 y10] : Array Value).toList[j]? = some u → wr3.cell? ⟨g, q * 11 + j, none⟩ = some u from hce)
           clear hy hk hAg hce hqn hw1
           generalize hkb : Fsm.keptB (s.jobs.map (·.1)) ⟨y0, y1, y2, y3, y4, y5, y6, ⟨y7, y8⟩, y9, y10⟩ = kb
           have HKB := Lib.hid hkb
           clear hkb
           have HST := Lib.hid (Fsm.fromB_step (p := (fun a => !Fsm.keptB (s.jobs.map (·.1)) a)) HY.out)
           generalize hfb : Fsm.fromB (fun a => !Fsm.keptB (s.jobs.map (·.1)) a) a2 (q + 1) = fb
           have HFB := Lib.hid hfb
           clear hfb
           have k53 : wr3.cell? ⟨T, 5, none⟩ = some (.slice (some ⟨g, 0, none⟩) n2 c2) := by rw [← HAG.out]; exact k53
           go_upto_region 18 with (first | go_skip | go_guarded)
           clear k53
           refine calm_region (by kernel_rfl) (by kernel_rfl) ?_
           refine calm_val (v := .agg ({ s with AA := A2, nA := n2, cA := c2, allocs := a2, next := nx } : StoreV).arr) (by kernel_rfl) ?_ ?_
           ·intro W hW
            exact run_load_blk rfl STStore (by go_simp) (hT3.e0 hW) rfl
           simp only [Act.put, zA, zB, zC, zD, zE, zF]
           refine calm_val (v := .pointer (some ⟨T, 5, none⟩)) (by kernel_rfl) ?_ ?_
           ·intro W hW
            go_simp
           simp only [Act.put, zA, zB, zC, zD, zE, zF]
           refine calm_val (v := .slice (some ⟨g, 0, none⟩) n2 c2) (by kernel_rfl) ?_ ?_
           ·intro W hW
            have q5 : W.cell? ⟨T, 5, none⟩ = some (.slice (some ⟨g, 0, none⟩) n2 c2) := (by rw [← HAG.out]; exact (hT3.e0 hW).cell 5)
            go_simp
           simp only [Act.put, zA, zB, zC, zD, zE, zF]
           refine calm_val (v := .int .i64 (q : Int)) (by kernel_rfl) ?_ ?_
           ·intro W hW
            go_simp
           simp only [Act.put, zA, zB, zC, zD, zE, zF]
           refine calm_val (v := .pointer (some ⟨g, q * 11, none⟩)) (by kernel_rfl) ?_ ?_
           ·intro W hW
            go_simp
           simp only [Act.put, zA, zB, zC, zD, zE, zF]
           refine calm_val (v := .agg #[.int .i64 y0, .int .i64 y1, .int .i64 y2, .int .i64 y3, .int .i64 y4, .int .i64 y5, .int .i64 y6, .int .i64 y7, .int .i64 y8, .bool y9, .int .i64 y10]) (by kernel_rfl) ?_ ?_
           ·intro W hW
            exact run_load_struct (sz := 11) (b := g) (off := q * 11) rfl STAlloc (by go_simp) (fun j u hu => hW.cell (HCE.out j u hu) (fun e => e)) rfl
           simp only [Act.put, zA, zB, zC, zD, zE, zF]
           refine calm_call (v := .bool kb) (f := 82) (args := #[.agg ({ s with AA := A2, nA := n2, cA := c2, allocs := a2, next := nx } : StoreV).arr, .agg #[.int .i64 y0, .int .i64 y1, .int .i64 y2, .int .i64 y3, .int .i64 y4, .int .i64 y5, .int .i64 y6, .int .i64 y7, .int .i64 y8, .bool y9, .int .i64 y10]]) (by kernel_rfl) (fun W hW => by go_simp) (fun W hW => (refKept base ({ s with AA := A2, nA := n2, cA := c2, allocs := a2, next := nx } : StoreV) ⟨y0, y1, y2, y3, y4, y5, y6, ⟨y7, y8⟩, y9, y10⟩ W (hO3.keep0 hW) (show s.jobs.length ≤ _ by omega)).mono fun e w' ⟨he, hxu⟩ => ⟨by rw [he]; exact congrArg (fun z => Ending.returned (.bool z)) HKB.out, hW.tr hxu⟩) ?_
           simp only [Act.put, zA, zB, zC, zD, zE, zF]
           refine calm_val (v := .bool kb) (by kernel_rfl) ?_ ?_
           ·intro W hW
            go_simp
           simp only [Act.put, zA, zB, zC, zD, zE, zF]
           refine calm_nil (fun Wf hWf => ?_)
           have hxf := hx3.tr hWf
           have hwq : wrap64 ((q : Int) - 1) = (q : Int) - 1 := by unfold wrap64; omega
           cases kb with
           | true =>
            have HR := Lib.hid (show Fsm.fromB (fun a => !Fsm.keptB (s.jobs.map (·.1)) a) a2 q = fb by rw [HST.out, HKB.out, ← HFB.out]; rfl)
            go_wp2_with (first | go_skip | go_guarded)
            go_roundw
            case rel => exact ⟨q, by have := HQ.out; omega, by rw [← hwq], by rw [HR.out], hxf⟩
            case measure => simp [intOf, hwq]
           | false =>
            have HR := Lib.hid (show Fsm.fromB (fun a => !Fsm.keptB (s.jobs.map (·.1)) a) a2 q = (q : Int) by rw [HST.out, HKB.out]; rfl)
            go_wp2_with (first | go_skip | go_guarded)
            go_roundw
            case rel => exact ⟨q, by have := HQ.out; omega, by rw [← hwq], by rw [HR.out], hxf⟩
            case measure => simp [intOf, hwq]
        ·have hg : decide (64 < (n2 : Int)) = false := by simp; omega
         have HF4 := Lib.hid (show Fsm.places s.data ⟨j0, j1, j2, j3, jg, j5, false⟩ node l = (({ s with AA := A2, nA := n2, cA := c2, allocs := a2, next := nx } : StoreV).data, true) by rw [HF3.out, HTR.out, Fsm.trim_done _ (by have := hn2.out; omega)]; rfl)
         go_wp2_with (first | go_skip | go_guarded | ((with_reducible refine isW ?_); refine wpList_load_blk rfl 30 _ rfl STStore T rfl ({ s with AA := A2, nA := n2, cA := c2, allocs := a2, next := nx } : StoreV).arr (show Blk _ _ 30 _ from hT2) rfl ?_) | ((with_reducible refine isW ?_); refine wpList_store_blk rfl 30 _ _ rfl STStore (w.heap.size + 1 + 1) rfl ({ s with AA := A2, nA := n2, cA := c2, allocs := a2, next := nx } : StoreV).arr rfl (show Blk _ _ 30 _ from hR2) rfl rfl rfl ?_; intro w9 hBw9 hxw9))
         have hx9 : Ext Nothing w w9 := hxw2.trans hxw9 (fun b hb e => absurd (show b = (w.heap.size + 1 + 1) from e) (by omega))
         exact bodyPost_ret (results_cell_tmp rfl STStore (g := (w.heap.size + 1 + 1)) rfl hBw9 rfl) rfl ⟨({ s with AA := A2, nA := n2, cA := c2, allocs := a2, next := nx } : StoreV), by rw [HF4.out]; rfl, hO2.keep hxw9 (Apart.one hR2 (by decide)), by rw [HF4.out], ⟨A2, n2, c2, a2, nx, rfl, .inl (by have := hn2.out; omega)⟩, hx9⟩
end Go.Proofs.YtlpfcmnnmdhaoaaGreat
