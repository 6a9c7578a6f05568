/- Parts of the proof: RefDrain -/
import Derived.Test.YtlpfcmnnmdhaoaaGreatQ19
import Derived.Test.YtlpfcmnnmdhaoaaGreatQ10
namespace Go.Proofs.YtlpfcmnnmdhaoaaGreat
set_option linter.unusedVariables false
set_option linter.unusedSimpArgs false
set_option linter.unusedSectionVars false
open Go.RowKit
def drStep (id : Int) (t : StoreD) (a : AllocD) : StoreD := if a.node == id && !overB a then Fsm.eval t a.job else t
theorem drStep_len (id : Int) (t : StoreD) (a : AllocD) : (drStep id t a).evals.length ≤ t.evals.length + 1 := by
 unfold drStep
 split
 ·exact Fsm.eval_len _ _
 ·omega
set_option maxRecDepth 20000 in
set_option maxHeartbeats 8000000 in
theorem refDrain (base : Nat) (s : StoreV) (c : CmdV) (w : World) (h : OwnS base w s) (hc : CmdI base w c) (hb : base ≤ w.heap.size) (hJ : s.jobs.length ≤ 1048576) (hN : s.nodes.length ≤ 1048576) (hA : s.allocs.length ≤ 1048576) (hE : s.evals.length ≤ 16777216) :
  Calls Tryz.prog 33 #[.agg s.arr, .agg c.arr] w fun e w' => ∃ s' r, e = .returned (.tuple #[.agg s'.arr, .agg (resArr r.code r.value)]) ∧ OwnS base w' s' ∧ Fsm.drain s.data c.d = (s'.data, r) ∧ r.allocs = [] ∧ Ext (RowB base w) w w' := by
 obtain ⟨hxW, hBW, hCW, hRW, hEW⟩ := enterW w s.arr c.arr #[.int .i64 0, .int .i64 0, .slice none 0 0, .slice none 0 0, .slice none 0 0, .slice none 0 0, .slice none 0 0, .slice none 0 0, .slice none 0 0] #[.int .i64 0, .int .i64 0, .slice none 0 0]
 have hsn := h.slN
 have hnl := Lib.hid h.nl
 have hal := Lib.hid h.al
 have hnN : s.nN ≤ 67108864 := by have := h.nl; omega
 have hnA : s.nA ≤ 1048576 := by have := h.al; omega
 rcases idx_cases (fun x : NodD => x.id == c.node.id) s.nodes with ⟨hi, hf, _⟩ | ⟨i, x, hi, hxi, hp, hf, hfirst⟩
 ·have HF := Lib.hid (show Fsm.drain s.data c.d = (s.data, ⟨31, 0, []⟩) by unfold Fsm.drain; rw [show Fsm.nodeAt s.data c.d.node.id = none from hf]; rfl)
  have HI := Lib.hid hi
  clear hi hf
  go_enter Tryz.func33, Tryz.ntmps33
  go_upto_region 1 with fail
  generalize ((((w.alloc (.cells s.arr 30)).alloc (.cells c.arr 51)).alloc (.cells #[.int .i64 0, .int .i64 0, .slice none 0 0, .slice none 0 0, .slice none 0 0, .slice none 0 0, .slice none 0 0, .slice none 0 0, .slice none 0 0] 30)).alloc (.cells #[.int .i64 0, .int .i64 0, .slice none 0 0] 34)) = W at hxW hBW hCW hRW hEW ⊢
  have hzW : w.heap.size + 1 + 1 + 1 < W.heap.size := hEW.lt
  have c10 : W.cell? ⟨w.heap.size + 1, 10, none⟩ = some (.int .i64 c.node.id) := hCW.cell 10
  go_upto_region 3 with (first | go_skip | ((with_reducible refine isW ?_); refine wpList_load_blk rfl 30 _ rfl STStore w.heap.size rfl s.arr (show Blk _ _ 30 _ from hBW) rfl ?_) | (go_at_call 12; (with_reducible refine (refAtNode s.AN s.nN s.cN s.nodes c.node.id W (hsn.ext0 hxW) hnN _ _ _ _ _ _ _ _).mono ?_); rintro e w1 ⟨rfl, hx1⟩; rw [HI.out]))
  have hBa := hBW.e0 hx1
  have hRa := hRW.e0 hx1
  have hEa := hEW.e0 hx1
  refine zH (S := fun q => q = (w.heap.size + 1 + 1) ∨ q = (w.heap.size + 1 + 1 + 1)) (by kernel_rfl) (fun Wd hd hd0 => ?_)
  refine zT 0 (.agg s.arr) rfl (by kernel_rfl) (by rfl) hd (fun _ _ _ h => h) ?_ ?_
  ·intro W' hS'
   exact run_load_blk rfl STStore (by go_simp) (hBa.ext hS' (by omega)) rfl
  simp only [Act.put, zA, zB, zC, zD, zE, zF]
  refine zO 1 (by kernel_rfl) ?_
  refine wpOp_call (f := 16) (args := #[.int .i64 31]) rfl (by rfl) (by go_simp) ((refNo 31 Wd).mono ?_)
  rintro e wn ⟨rfl, hxn⟩
  have hd1 := hd.trans hxn (fun _ _ e => e.elim)
  have hd01 := hd0.tr hxn
  refine ⟨_, rfl, hd1, ?_⟩
  simp only [Act.put, zA, zB, zC, zD, zE, zF]
  refine zO 2 (by kernel_rfl) ?_
  refine wpOp_store (p := (w.heap.size + 1 + 1)) (cs := s.arr) rfl (by rfl) rfl (by go_simp) (by go_simp) (hRa.e0 hd01) rfl STStore rfl rfl (fun w2 hR2 hx2 => ?_)
  have hd2 := hd1.trans hx2 (fun q hq e => .inl e)
  refine ⟨hd2, ?_⟩
  simp only [Act.put, zA, zB, zC, zD, zE, zF]
  refine zO 3 (by kernel_rfl) ?_
  refine wpOp_store (p := (w.heap.size + 1 + 1 + 1)) (cs := resArr 31 0) rfl (by rfl) rfl (by go_simp) (by go_simp) ((hEa.e0 hd01).ext hx2 (fun e => absurd (show (w.heap.size + 1 + 1 + 1) = (w.heap.size + 1 + 1) from e) (by omega))) rfl STResult rfl rfl (fun w3 hE3 hx3' => ?_)
  have hx3 := hd2.trans hx3' (fun q hq e => .inr e)
  have hR3 := hR2.ext hx3' (fun e => absurd (show (w.heap.size + 1 + 1) = (w.heap.size + 1 + 1 + 1) from e) (by omega))
  refine ⟨hx3, wpAnyH_done (by kernel_rfl) ?_ _⟩
  simp only [Act.put, zA, zB, zC, zD, zE, zF]
  go_wp2
  have hxx : Ext Nothing w w3 := (hxW.tr hx1).trans hx3 (fun b hb e => by omega)
  exact bodyPost_ret (results_cell2 rfl STStore STResult rfl rfl hR3 rfl hE3 rfl) rfl ⟨s, ⟨31, 0, []⟩, rfl, h.keep0 hxx, HF.out, rfl, hxx.mono (fun _ _ e => e.elim)⟩
 ·have hna' : Fsm.nodeAt s.data c.d.node.id = some x := hf
  have HX := Lib.hid hxi
  have HI := Lib.hid hi
  have hk0 : (0 : Int) ≤ (i : Int) := by omega
  have hk1 : (i : Int) < s.nN := by have := hnl.out; have := (List.getElem?_eq_some_iff.1 hxi).1; omega
  have hkg : ¬ ((i : Int) < 0) := by omega
  obtain ⟨x0, ⟨x1, x2⟩, x3, x4, x5, x6, x7⟩ := x
  have HF := Lib.hid (show Fsm.drain s.data c.d = (if c.node.drain then Fsm.system (s.allocs.foldl (drStep c.node.id) ({ s with nodes := (s.nodes.set i ⟨x0, ⟨x1, x2⟩, x3, c.node.drain, x5, x6, x7⟩) } : StoreV).data) else Fsm.came (Fsm.system (s.allocs.foldl (drStep c.node.id) ({ s with nodes := (s.nodes.set i ⟨x0, ⟨x1, x2⟩, x3, c.node.drain, x5, x6, x7⟩) } : StoreV).data)), ⟨0, 0, []⟩) by
   unfold Fsm.drain; rw [hna']; simp only []
   rw [show Fsm.turn1 (fun n => n.id == c.d.node.id) (fun n => { n with drain := c.d.node.drain }) s.data.nodes = _ from Fsm.turn1_set (f := fun n : NodD => { n with drain := c.d.node.drain }) hxi hp hfirst]; rfl)
  clear hf hi hfirst hp hna'
  go_enter Tryz.func33, Tryz.ntmps33
  go_upto_region 1 with fail
  generalize ((((w.alloc (.cells s.arr 30)).alloc (.cells c.arr 51)).alloc (.cells #[.int .i64 0, .int .i64 0, .slice none 0 0, .slice none 0 0, .slice none 0 0, .slice none 0 0, .slice none 0 0, .slice none 0 0, .slice none 0 0] 30)).alloc (.cells #[.int .i64 0, .int .i64 0, .slice none 0 0] 34)) = W at hxW hBW hCW hRW hEW ⊢
  have hzW : w.heap.size + 1 + 1 + 1 < W.heap.size := hEW.lt
  have c10 : W.cell? ⟨w.heap.size + 1, 10, none⟩ = some (.int .i64 c.node.id) := hCW.cell 10
  go_upto_region 4 with (first | go_skip | ((with_reducible refine isW ?_); refine wpList_load_blk rfl 30 _ rfl STStore w.heap.size rfl s.arr (show Blk _ _ 30 _ from hBW) rfl ?_) | (go_at_call 12; (with_reducible refine (refAtNode s.AN s.nN s.cN s.nodes c.node.id W (hsn.ext0 hxW) hnN _ _ _ _ _ _ _ _).mono ?_); rintro e w1 ⟨rfl, hx1⟩; rw [HI.out]))
  have hBa := hBW.e0 hx1
  have hO1 := h.keep0 (hxW.tr hx1)
  obtain ⟨g, cur, hAe, hob, hgb, _, hce, hput⟩ := hO1.putN hxi
  have hAe2 : s.AN = some ⟨g, 0, none⟩ := hAe
  have c4 : w1.cell? ⟨w.heap.size, 4, none⟩ = some (.slice (some ⟨g, 0, none⟩) s.nN s.cN) := by rw [← hAe2]; exact hBa.cell 4
  have k4 : w1.cell? ⟨g, i * 8 + 4, none⟩ = some (.bool x4) := hce 4 _ rfl
  have f4 : w1.frozen? ⟨g, i * 8 + 4, none⟩ = false := hgb.frozen _
  have c14 : w1.cell? ⟨w.heap.size + 1, 14, none⟩ = some (.bool c.node.drain) := (hCW.e0 hx1).cell 14
  have hgge : RowB base w g := RowB.of_own h.n (by decide) hob
  have hglt : g < w.heap.size := own_lt h.n hob
  have HA := Lib.hid hAe2
  clear hAe hAe2
  go_upto_region 5 with (first | go_skip)
  have hO4 : OwnS base (w1.setCell ⟨g, i * 8 + 4, none⟩ (.bool c.node.drain)) ({ s with nodes := (s.nodes.set i ⟨x0, ⟨x1, x2⟩, x3, c.node.drain, x5, x6, x7⟩) } : StoreV) := hput 4 (.bool c.node.drain) ⟨x0, ⟨x1, x2⟩, x3, c.node.drain, x5, x6, x7⟩ (by decide) rfl
  have hs4 : Ext (fun b => b = g) w1 (w1.setCell ⟨g, i * 8 + 4, none⟩ (.bool c.node.drain)) := Ext.set1 _ _ _ _
  have hB4 := hBa.ext hs4 (fun e => absurd (show w.heap.size = g from e) (by omega))
  have hC4 := (hCW.e0 hx1).ext hs4 (fun e => absurd (show w.heap.size + 1 = g from e) (by omega))
  have hR4 := (hRW.e0 hx1).ext hs4 (fun e => absurd (show w.heap.size + 1 + 1 = g from e) (by omega))
  have hE4 := (hEW.e0 hx1).ext hs4 (fun e => absurd (show w.heap.size + 1 + 1 + 1 = g from e) (by omega))
  have hx4 : Ext (RowB base w) w (w1.setCell ⟨g, i * 8 + 4, none⟩ (.bool c.node.drain)) := ((hxW.tr hx1).mono (S' := RowB base w) (fun _ _ e => e.elim)).trans hs4 (fun b hb e => by rw [show b = g from e]; exact hgge)
  have hz4 : w.heap.size + 1 + 1 + 1 < (w1.setCell ⟨g, i * 8 + 4, none⟩ (.bool c.node.drain)).heap.size := hE4.lt
  clear c4 k4 f4 c14 hput hce hs4 c10 hxi
  generalize (w1.setCell ⟨g, i * 8 + 4, none⟩ (.bool c.node.drain)) = W4 at hO4 hB4 hC4 hR4 hE4 hx4 hz4 ⊢
  have hb4 : base ≤ W4.heap.size := by omega
  go_wp2
  go_loopw [7] (fun k wr => ∃ t : Nat, t ≤ s.nA ∧ k = .int .i64 t ∧ ∃ A n ca l, OwnS base wr ({ s with nodes := (s.nodes.set i ⟨x0, ⟨x1, x2⟩, x3, c.node.drain, x5, x6, x7⟩), AE := A, nE := n, cE := ca, evals := l } : StoreV) ∧ ({ s with nodes := (s.nodes.set i ⟨x0, ⟨x1, x2⟩, x3, c.node.drain, x5, x6, x7⟩), AE := A, nE := n, cE := ca, evals := l } : StoreV).data = (s.allocs.take t).foldl (drStep c.node.id) ({ s with nodes := (s.nodes.set i ⟨x0, ⟨x1, x2⟩, x3, c.node.drain, x5, x6, x7⟩) } : StoreV).data ∧ l.length ≤ s.evals.length + t ∧
   Blk wr w.heap.size 30 ({ s with nodes := (s.nodes.set i ⟨x0, ⟨x1, x2⟩, x3, c.node.drain, x5, x6, x7⟩), AE := A, nE := n, cE := ca, evals := l } : StoreV).arr ∧ Blk wr (w.heap.size + 1) 51 c.arr ∧ Blk wr (w.heap.size + 1 + 1) 30 #[.int .i64 0, .int .i64 0, .slice none 0 0, .slice none 0 0, .slice none 0 0, .slice none 0 0, .slice none 0 0, .slice none 0 0, .slice none 0 0] ∧ Blk wr (w.heap.size + 1 + 1 + 1) 34 #[.int .i64 0, .int .i64 0, .slice none 0 0] ∧ Ext (RowB base w) w wr) (fun k _ => s.nA - (intOf k).toNat)
  case atStart => exact ⟨0, Nat.zero_le _, rfl, s.AE, s.nE, s.cE, s.evals, hO4, rfl, Nat.le_refl _, hB4, hC4, hR4, hE4, hx4⟩
  case round =>
   obtain ⟨t, ht, rfl, A, n, ca, l, hO, hD, hL, hB, hC, hR, hER, hx⟩ := hrel
   have hzr : w.heap.size + 1 + 1 + 1 < wr.heap.size := hER.lt
   have c5 : wr.cell? ⟨w.heap.size, 5, none⟩ = some (.slice s.AA s.nA s.cA) := hB.cell 5
   by_cases hlt : t < s.nA
   ·have hsa : Sl wr 11 s.AA s.nA (s.allocs.map AllocD.cells) := hO.slA
    obtain ⟨hjn, b, off, hAe, hce⟩ := hsa.get (Ext.refl Nothing wr) hlt
    have hst := foldl_take (drStep c.node.id) ({ s with nodes := (s.nodes.set i ⟨x0, ⟨x1, x2⟩, x3, c.node.drain, x5, x6, x7⟩) } : StoreV).data s.allocs t hjn
    rw [← hD] at hst
    have hle := drStep_len c.node.id ({ s with nodes := (s.nodes.set i ⟨x0, ⟨x1, x2⟩, x3, c.node.drain, x5, x6, x7⟩), AE := A, nE := n, cE := ca, evals := l } : StoreV).data s.allocs[t]
    generalize s.allocs[t] = y at hce hst hle
    obtain ⟨y0, y1, y2, y3, y4, y5, y6, ⟨y7, y8⟩, y9, y10⟩ := y
    rw [hAe] at c5
    have k5 : wr.cell? ⟨b, off + t * 11 + 5, none⟩ = some (.int .i64 y5) := hce 5 _ rfl
    have k10 : wr.cell? ⟨b, off + t * 11 + 10, none⟩ = some (.int .i64 y10) := hce 10 _ rfl
    have c10 : wr.cell? ⟨w.heap.size + 1, 10, none⟩ = some (.int .i64 c.node.id) := hC.cell 10
    have ht0 : (0 : Int) ≤ (t : Int) := by omega
    have ht1 : (t : Int) < s.nA := by omega
    have HT := Lib.hid hlt
    have HAA := Lib.hid hAe
    have HS := Lib.hid hst
    have HD := Lib.hid hL
    have HL := Lib.hid hle
    clear hAe hst hL hD hle
    cases hq : (y5 == c.node.id && !overB ⟨y0, y1, y2, y3, y4, y5, y6, ⟨y7, y8⟩, y9, y10⟩) with
    | false =>
     have hs1 := Lib.hid (HS.out.trans (show drStep c.node.id ({ s with nodes := (s.nodes.set i ⟨x0, ⟨x1, x2⟩, x3, c.node.drain, x5, x6, x7⟩), AE := A, nE := n, cE := ca, evals := l } : StoreV).data ⟨y0, y1, y2, y3, y4, y5, y6, ⟨y7, y8⟩, y9, y10⟩ = _ from if_neg (by rw [hq]; exact Bool.false_ne_true)))
     cases h1 : (y5 == c.node.id) with
     | false =>
      go_wp2_with (first | go_skip | go_guarded)
      go_quiet (fail)
      have hdq := (Ext.refl Nothing wr).drewN nq
      generalize wr.drewN nq = wq at hdq ⊢
      go_wp2
      go_roundw
      case rel => exact ⟨t + 1, HT.out, by go_num, A, n, ca, l, hO.keep0 hdq, hs1.out.symm, by have := HD.out; omega, hB.e0 hdq, hC.e0 hdq, hR.e0 hdq, hER.e0 hdq, hx.trans hdq (fun _ _ e => e.elim)⟩
      case measure => have := HT.out; simp [intOf]; omega
     | true =>
      have h6 : decide (y10 < 3) = false := by rw [h1] at hq; simp [overB] at hq; simp; omega
      go_wp2_with (first | go_skip | go_guarded)
      go_quiet (fail)
      have hdq := (Ext.refl Nothing wr).drewN nq
      generalize wr.drewN nq = wq at hdq ⊢
      go_wp2
      go_roundw
      case rel => exact ⟨t + 1, HT.out, by go_num, A, n, ca, l, hO.keep0 hdq, hs1.out.symm, by have := HD.out; omega, hB.e0 hdq, hC.e0 hdq, hR.e0 hdq, hER.e0 hdq, hx.trans hdq (fun _ _ e => e.elim)⟩
      case measure => have := HT.out; simp [intOf]; omega
    | true =>
     have hs1 := Lib.hid (HS.out.trans (show drStep c.node.id ({ s with nodes := (s.nodes.set i ⟨x0, ⟨x1, x2⟩, x3, c.node.drain, x5, x6, x7⟩), AE := A, nE := n, cE := ca, evals := l } : StoreV).data ⟨y0, y1, y2, y3, y4, y5, y6, ⟨y7, y8⟩, y9, y10⟩ = _ from if_pos hq))
     have hl1 := Lib.hid (show (drStep c.node.id ({ s with nodes := (s.nodes.set i ⟨x0, ⟨x1, x2⟩, x3, c.node.drain, x5, x6, x7⟩), AE := A, nE := n, cE := ca, evals := l } : StoreV).data ⟨y0, y1, y2, y3, y4, y5, y6, ⟨y7, y8⟩, y9, y10⟩).evals.length = (Fsm.eval ({ s with nodes := (s.nodes.set i ⟨x0, ⟨x1, x2⟩, x3, c.node.drain, x5, x6, x7⟩), AE := A, nE := n, cE := ca, evals := l } : StoreV).data y1).evals.length from by unfold drStep; rw [if_pos hq])
     have h1 : (y5 == c.node.id) = true := by revert hq; cases (y5 == c.node.id) <;> simp
     have h6 : decide (y10 < 3) = true := by rw [h1] at hq; simp [overB] at hq; simp; omega
     go_wp2_with (first | go_skip | go_guarded)
     go_quiet (fail)
     have hdq := (Ext.refl Nothing wr).drewN nq
     generalize wr.drewN nq = wq at hdq ⊢
     have hOp := hO.keep0 hdq
     have hBp := hB.e0 hdq
     have hCp := hC.e0 hdq
     have hRp := hR.e0 hdq
     have hEp := hER.e0 hdq
     have hxp := hx.trans hdq (fun _ _ e => e.elim)
     have d0 : wq.cell? ⟨w.heap.size, 0, none⟩ = some (.int .i64 s.index) := hBp.cell 0
     have d1 : wq.cell? ⟨w.heap.size, 1, none⟩ = some (.int .i64 s.next) := hBp.cell 1
     have d2 : wq.cell? ⟨w.heap.size, 2, none⟩ = some (.slice s.AJ s.nJ s.cJ) := hBp.cell 2
     have d3 : wq.cell? ⟨w.heap.size, 3, none⟩ = some (.slice s.AS s.nS s.cS) := hBp.cell 3
     have d4 : wq.cell? ⟨w.heap.size, 4, none⟩ = some (.slice s.AN s.nN s.cN) := hBp.cell 4
     have d5 : wq.cell? ⟨w.heap.size, 5, none⟩ = some (.slice (some ⟨b, off, none⟩) s.nA s.cA) := by rw [← HAA.out]; exact hBp.cell 5
     have d6 : wq.cell? ⟨w.heap.size, 6, none⟩ = some (.slice A n ca) := hBp.cell 6
     have d7 : wq.cell? ⟨w.heap.size, 7, none⟩ = some (.slice s.AD s.nD s.cD) := hBp.cell 7
     have d8 : wq.cell? ⟨w.heap.size, 8, none⟩ = some (.slice s.AX s.nX s.cX) := hBp.cell 8
     have e1 : wq.cell? ⟨b, off + t * 11 + 1, none⟩ = some (.int .i64 y1) := hdq.cell (hce 1 _ rfl) (fun e => e)
     go_wp2_with (first | go_skip | go_guarded)
     go_still_tail 7, (by kernel_rfl)
     have hd : Ext Nothing wq wq.drew := (Ext.refl _ _).drew
     change wpList _ _ _ _ _ wq.drew
     generalize wq.drew = wz at hd ⊢
     have hOz := hOp.keep0 hd
     have hBz := hBp.e0 hd
     have hCz := hCp.e0 hd
     have hRz := hRp.e0 hd
     have hEz := hEp.e0 hd
     have hxz := hxp.trans hd (fun _ _ e => e.elim)
     have hbz : base ≤ wz.heap.size := by have := hxz.size; omega
     rw [← HAA.out]
     go_wp2_with (first | (go_at_call 54; (with_reducible refine (refEval base ({ s with nodes := (s.nodes.set i ⟨x0, ⟨x1, x2⟩, x3, c.node.drain, x5, x6, x7⟩), AE := A, nE := n, cE := ca, evals := l } : StoreV) y1 wz hOz hbz (by show s.jobs.length ≤ _; omega) (by show l.length < _; have := HD.out; omega)).mono ?_); rintro e w5 ⟨s2, rfl, hO2, hD2, ⟨A2, n2, c2', l2, rfl⟩, hx5⟩; have hB5 := hBz.e0 hx5) | ((with_reducible refine isW ?_); refine wpList_store_blk rfl 30 _ _ rfl STStore w.heap.size rfl ({ s with nodes := (s.nodes.set i ⟨x0, ⟨x1, x2⟩, x3, c.node.drain, x5, x6, x7⟩), AE := A2, nE := n2, cE := c2', evals := l2 } : StoreV).arr rfl hB5 rfl rfl rfl ?_; intro w6 hB6 hx6))
     have hlen : l2.length ≤ s.evals.length + (t + 1) := by
      have e1 : l2.length = (Fsm.eval ({ s with nodes := (s.nodes.set i ⟨x0, ⟨x1, x2⟩, x3, c.node.drain, x5, x6, x7⟩), AE := A, nE := n, cE := ca, evals := l } : StoreV).data y1).evals.length := congrArg (fun z : StoreD => z.evals.length) hD2
      have e2 := Fsm.eval_len ({ s with nodes := (s.nodes.set i ⟨x0, ⟨x1, x2⟩, x3, c.node.drain, x5, x6, x7⟩), AE := A, nE := n, cE := ca, evals := l } : StoreV).data y1
      have e4 := HD.out
      have e5 : ({ s with nodes := (s.nodes.set i ⟨x0, ⟨x1, x2⟩, x3, c.node.drain, x5, x6, x7⟩), AE := A, nE := n, cE := ca, evals := l } : StoreV).data.evals.length = l.length := rfl
      omega
     go_roundw
     case rel => exact ⟨t + 1, HT.out, by go_num, A2, n2, c2', l2, hO2.keep hx6 (Apart.one hB5 (by decide)), hD2.trans hs1.out.symm, hlen, hB6, (hCz.e0 hx5).ext hx6 (fun e => absurd (show w.heap.size + 1 = w.heap.size from e) (by omega)), (hRz.e0 hx5).ext hx6 (fun e => absurd (show w.heap.size + 1 + 1 = w.heap.size from e) (by omega)), (hEz.e0 hx5).ext hx6 (fun e => absurd (show w.heap.size + 1 + 1 + 1 = w.heap.size from e) (by omega)), (hxz.trans hx5 (fun _ _ e => e.elim)).trans hx6 (fun b h9 e => absurd (show b = w.heap.size from e) (by omega))⟩
     case measure => have := HT.out; simp [intOf]; omega
   ·have hnl : ¬ ((t : Int) < s.nA) := by omega
    have hal2 : s.allocs.take t = s.allocs := List.take_of_length_le (by have := hal.out; omega)
    rw [hal2] at hD
    have HD := Lib.hid hD
    have hEl : l.length ≤ 33554432 := by omega
    have hbr : base ≤ wr.heap.size := by omega
    clear hD hal2
    go_upto_region 11 with (first | go_skip | ((with_reducible refine isW ?_); refine wpList_load_blk rfl 30 _ rfl STStore w.heap.size rfl ({ s with nodes := (s.nodes.set i ⟨x0, ⟨x1, x2⟩, x3, c.node.drain, x5, x6, x7⟩), AE := A, nE := n, cE := ca, evals := l } : StoreV).arr (show Blk _ _ 30 _ from hB) rfl ?_) | (go_at_call 56; (with_reducible refine (refSystem base ({ s with nodes := (s.nodes.set i ⟨x0, ⟨x1, x2⟩, x3, c.node.drain, x5, x6, x7⟩), AE := A, nE := n, cE := ca, evals := l } : StoreV) wr hO hbr hJ hEl).mono ?_); rintro e w5 ⟨s2, rfl, hO5, hd5, ⟨A2, n2, c2', l2, rfl⟩, hx5⟩; have hB5 := hB.e0 hx5) | ((with_reducible refine isW ?_); refine wpList_store_blk rfl 30 _ _ rfl STStore w.heap.size rfl ({ s with nodes := (s.nodes.set i ⟨x0, ⟨x1, x2⟩, x3, c.node.drain, x5, x6, x7⟩), AE := A2, nE := n2, cE := c2', evals := l2 } : StoreV).arr rfl hB5 rfl rfl rfl ?_; intro w6 hB6 hx6))
    have hC6 := (hC.e0 hx5).ext hx6 (fun e => absurd (show w.heap.size + 1 = w.heap.size from e) (by omega))
    have hR6 := (hR.e0 hx5).ext hx6 (fun e => absurd (show w.heap.size + 1 + 1 = w.heap.size from e) (by omega))
    have hE6 := (hER.e0 hx5).ext hx6 (fun e => absurd (show w.heap.size + 1 + 1 + 1 = w.heap.size from e) (by omega))
    have hO6 := hO5.keep hx6 (Apart.one hB5 (by decide))
    have hxw6 : Ext (RowB base w) w w6 := (hx.trans hx5 (fun _ _ e => e.elim)).trans hx6 (fun b h9 e => absurd (show b = w.heap.size from e) (by omega))
    have c14 : w6.cell? ⟨w.heap.size + 1, 14, none⟩ = some (.bool c.node.drain) := hC6.cell 14
    have hdat : ({ s with nodes := (s.nodes.set i ⟨x0, ⟨x1, x2⟩, x3, c.node.drain, x5, x6, x7⟩), AE := A2, nE := n2, cE := c2', evals := l2 } : StoreV).data = Fsm.system (s.allocs.foldl (drStep c.node.id) ({ s with nodes := (s.nodes.set i ⟨x0, ⟨x1, x2⟩, x3, c.node.drain, x5, x6, x7⟩) } : StoreV).data) := by rw [hd5, HD.out]
    have HDT := Lib.hid hdat
    have hE2 : l2.length < 67108862 := by
     have e1 : l2.length = (Fsm.system ({ s with nodes := (s.nodes.set i ⟨x0, ⟨x1, x2⟩, x3, c.node.drain, x5, x6, x7⟩), AE := A, nE := n, cE := ca, evals := l } : StoreV).data).evals.length := congrArg (fun z : StoreD => z.evals.length) hd5
     have e2 := Fsm.fold_len (f := sysStep) sysStep_len ({ s with nodes := (s.nodes.set i ⟨x0, ⟨x1, x2⟩, x3, c.node.drain, x5, x6, x7⟩), AE := A, nE := n, cE := ca, evals := l } : StoreV).data.jobs ({ s with nodes := (s.nodes.set i ⟨x0, ⟨x1, x2⟩, x3, c.node.drain, x5, x6, x7⟩), AE := A, nE := n, cE := ca, evals := l } : StoreV).data
     rw [← sys_fold] at e2
     have e3 : ({ s with nodes := (s.nodes.set i ⟨x0, ⟨x1, x2⟩, x3, c.node.drain, x5, x6, x7⟩), AE := A, nE := n, cE := ca, evals := l } : StoreV).data.evals.length = l.length := rfl
     have e4 : ({ s with nodes := (s.nodes.set i ⟨x0, ⟨x1, x2⟩, x3, c.node.drain, x5, x6, x7⟩), AE := A, nE := n, cE := ca, evals := l } : StoreV).data.jobs.length = s.jobs.length := by show (s.jobs.map (·.1)).length = _; simp
     omega
    clear hdat hd5
    cases hdr : c.node.drain with
    | true =>
     rw [hdr] at c14
     go_wp2_with (first | go_skip | ((with_reducible refine isW ?_); refine wpList_load_blk rfl 30 _ rfl STStore w.heap.size rfl ({ s with nodes := (s.nodes.set i ⟨x0, ⟨x1, x2⟩, x3, c.node.drain, x5, x6, x7⟩), AE := A2, nE := n2, cE := c2', evals := l2 } : StoreV).arr (show Blk _ _ 30 _ from hB6) rfl ?_) | ((with_reducible refine isW ?_); refine wpList_store_blk rfl 30 _ _ rfl STStore (w.heap.size + 1 + 1) rfl ({ s with nodes := (s.nodes.set i ⟨x0, ⟨x1, x2⟩, x3, c.node.drain, x5, x6, x7⟩), AE := A2, nE := n2, cE := c2', evals := l2 } : StoreV).arr rfl hR6 rfl rfl rfl ?_; intro w9 hR9 hx9) | ((with_reducible refine isW ?_); refine wpList_store_blk rfl 34 _ _ rfl STResult (w.heap.size + 1 + 1 + 1) rfl (resArr 0 0) rfl (hE6.ext hx9 (fun e => absurd (show w.heap.size + 1 + 1 + 1 = w.heap.size + 1 + 1 from e) (by omega))) rfl rfl rfl ?_; intro wt hEt hxt))
     have hRt := hR9.ext hxt (fun e => absurd (show w.heap.size + 1 + 1 = w.heap.size + 1 + 1 + 1 from e) (by omega))
     have hx89 : Ext (fun b => b = w.heap.size + 1 + 1 ∨ b = w.heap.size + 1 + 1 + 1) w6 wt := (hx9.mono (S' := fun b => b = w.heap.size + 1 + 1 ∨ b = w.heap.size + 1 + 1 + 1) (fun _ _ e => .inl e)).trans hxt (fun _ _ e => .inr e)
     have hOt := (hO6.keep hx9 (Apart.one hR6 (by decide))).keep hxt (Apart.one (hE6.ext hx9 (fun e => absurd (show w.heap.size + 1 + 1 + 1 = w.heap.size + 1 + 1 from e) (by omega))) (by decide))
     have hdt : Fsm.drain s.data c.d = (({ s with nodes := (s.nodes.set i ⟨x0, ⟨x1, x2⟩, x3, c.node.drain, x5, x6, x7⟩), AE := A2, nE := n2, cE := c2', evals := l2 } : StoreV).data, ⟨0, 0, []⟩) := by rw [HF.out, if_pos hdr, HDT.out]
     exact bodyPost_ret (results_cell2 rfl STStore STResult rfl rfl hRt rfl hEt rfl) rfl ⟨({ s with nodes := (s.nodes.set i ⟨x0, ⟨x1, x2⟩, x3, c.node.drain, x5, x6, x7⟩), AE := A2, nE := n2, cE := c2', evals := l2 } : StoreV), ⟨0, 0, []⟩, rfl, hOt, hdt, rfl, hxw6.trans hx89 (fun b hb e => by omega)⟩
    | false =>
     rw [hdr] at c14
     go_wp2_with (first | go_skip | ((with_reducible refine isW ?_); refine wpList_load_blk rfl 30 _ rfl STStore w.heap.size rfl _ (show Blk _ _ 30 _ from by first | exact hB8 | exact hB6) rfl ?_) | (go_at_call 58; (with_reducible refine (refCame base ({ s with nodes := (s.nodes.set i ⟨x0, ⟨x1, x2⟩, x3, c.node.drain, x5, x6, x7⟩), AE := A2, nE := n2, cE := c2', evals := l2 } : StoreV) w6 hO6 hE2).mono ?_); rintro e w7 ⟨s3, rfl, hO7, hd7, _, hx7⟩; have hB7 := hB6.ext hx7 (fun e => own_ne hO6.e hB6 (by decide) e); have hR7 := hR6.ext hx7 (fun e => own_ne hO6.e hR6 (by decide) e); have hE7 := hE6.ext hx7 (fun e => own_ne hO6.e hE6 (by decide) e)) | ((with_reducible refine isW ?_); refine wpList_store_blk rfl 30 _ _ rfl STStore w.heap.size rfl s3.arr rfl hB7 rfl rfl rfl ?_; intro w8 hB8 hx8; have hR8 := hR7.ext hx8 (fun e => absurd (show w.heap.size + 1 + 1 = w.heap.size from e) (by omega)); have hE8 := hE7.ext hx8 (fun e => absurd (show w.heap.size + 1 + 1 + 1 = w.heap.size from e) (by omega))) | ((with_reducible refine isW ?_); refine wpList_store_blk rfl 30 _ _ rfl STStore (w.heap.size + 1 + 1) rfl s3.arr rfl hR8 rfl rfl rfl ?_; intro w9 hR9 hx9) | ((with_reducible refine isW ?_); refine wpList_store_blk rfl 34 _ _ rfl STResult (w.heap.size + 1 + 1 + 1) rfl (resArr 0 0) rfl (hE8.ext hx9 (fun e => absurd (show w.heap.size + 1 + 1 + 1 = w.heap.size + 1 + 1 from e) (by omega))) rfl rfl rfl ?_; intro wt hEt hxt))
     have hRt := hR9.ext hxt (fun e => absurd (show w.heap.size + 1 + 1 = w.heap.size + 1 + 1 + 1 from e) (by omega))
     have hx89 : Ext (fun b => b = w.heap.size + 1 + 1 ∨ b = w.heap.size + 1 + 1 + 1) w8 wt := (hx9.mono (S' := fun b => b = w.heap.size + 1 + 1 ∨ b = w.heap.size + 1 + 1 + 1) (fun _ _ e => .inl e)).trans hxt (fun _ _ e => .inr e)
     have hO8 := hO7.keep hx8 (Apart.one hB7 (by decide))
     have hOt := (hO8.keep hx9 (Apart.one hR8 (by decide))).keep hxt (Apart.one (hE8.ext hx9 (fun e => absurd (show w.heap.size + 1 + 1 + 1 = w.heap.size + 1 + 1 from e) (by omega))) (by decide))
     have hdt : Fsm.drain s.data c.d = (s3.data, ⟨0, 0, []⟩) := by rw [HF.out, if_neg (by rw [hdr]; exact Bool.false_ne_true), hd7, HDT.out]
     exact bodyPost_ret (results_cell2 rfl STStore STResult rfl rfl hRt rfl hEt rfl) rfl ⟨s3, ⟨0, 0, []⟩, rfl, hOt, hdt, rfl, ((hxw6.row hx7 (fun b e => RowB.of_own hO6.e (by decide) e)).trans hx8 (fun b h9 e => absurd (show b = w.heap.size from e) (by omega))).trans hx89 (fun b hb e => by omega)⟩
end Go.Proofs.YtlpfcmnnmdhaoaaGreat
