/- Parts of the proof: RefDown -/
import Derived.Test.YtlpfcmnnmdhaoaaGreatQ17
import Derived.Test.YtlpfcmnnmdhaoaaGreatQ11
namespace Go.Proofs.YtlpfcmnnmdhaoaaGreat
set_option linter.unusedVariables false
set_option linter.unusedSimpArgs false
set_option linter.unusedSectionVars false
open Go.RowKit
def knownF (s : StoreD) (n : NodD) : Int × Int := match Fsm.nodeAt s n.id with
 | none => (0, 31)
 | some h => bif !h.up || !(h.epoch == n.epoch) then (0, 32) else (idxI (fun x : NodD => x.id == n.id) s.nodes, 0)
set_option maxRecDepth 20000 in
set_option maxHeartbeats 4000000 in
theorem refKnown (base : Nat) (s : StoreV) (n : NodD) (w : World) (h : OwnS base w s) (hN : s.nodes.length ≤ 1048576) :
  Calls Tryz.prog 59 #[.agg s.arr, .agg #[.int .i64 n.id, .int .i64 n.cap.cpu, .int .i64 n.cap.mem, .bool n.up, .bool n.drain, .int .i64 n.boot, .int .i64 n.epoch, .int .i64 n.seq]] w fun e w' => e = .returned (.tuple #[.int .i64 (knownF s.data n).1, .int .i64 (knownF s.data n).2]) ∧ Ext Nothing w w' := by
 have hx0 : Ext Nothing w ((w.alloc (.cells s.arr 30)).alloc (.cells #[.int .i64 n.id, .int .i64 n.cap.cpu, .int .i64 n.cap.mem, .bool n.up, .bool n.drain, .int .i64 n.boot, .int .i64 n.epoch, .int .i64 n.seq] 43)) := Ext.auto
 have hB0 : Blk ((w.alloc (.cells s.arr 30)).alloc (.cells #[.int .i64 n.id, .int .i64 n.cap.cpu, .int .i64 n.cap.mem, .bool n.up, .bool n.drain, .int .i64 n.boot, .int .i64 n.epoch, .int .i64 n.seq] 43)) w.heap.size 30 s.arr := (Blk.new w _ _).e0 Ext.auto
 have hN0 : Blk ((w.alloc (.cells s.arr 30)).alloc (.cells #[.int .i64 n.id, .int .i64 n.cap.cpu, .int .i64 n.cap.mem, .bool n.up, .bool n.drain, .int .i64 n.boot, .int .i64 n.epoch, .int .i64 n.seq] 43)) (w.heap.size + 1) 43 #[.int .i64 n.id, .int .i64 n.cap.cpu, .int .i64 n.cap.mem, .bool n.up, .bool n.drain, .int .i64 n.boot, .int .i64 n.epoch, .int .i64 n.seq] := Blk.new' _ _ _ (by simp)
 have hsn := h.slN
 have hnl := Lib.hid h.nl
 have hnN : s.nN ≤ 67108864 := by have := h.nl; omega
 rcases idx_cases (fun x : NodD => x.id == n.id) s.nodes with ⟨hi, hf, _⟩ | ⟨i, x, hi, hxi, hp, hf, _⟩
 ·have H := Lib.hid (show knownF s.data n = (0, 31) by unfold knownF; rw [show Fsm.nodeAt s.data n.id = none from hf])
  have HI := Lib.hid hi
  clear hi hf
  go_enter Tryz.func59, Tryz.ntmps59
  have n0 : ((w.alloc (.cells s.arr 30)).alloc (.cells #[.int .i64 n.id, .int .i64 n.cap.cpu, .int .i64 n.cap.mem, .bool n.up, .bool n.drain, .int .i64 n.boot, .int .i64 n.epoch, .int .i64 n.seq] 43)).cell? ⟨w.heap.size + 1, 0, none⟩ = some (.int .i64 n.id) := hN0.cell 0
  go_wp2_with (first | go_skip | go_guarded | ((with_reducible refine isW ?_); refine wpList_load_blk rfl 30 _ rfl STStore w.heap.size rfl s.arr (show Blk _ _ 30 _ from hB0) rfl ?_) | (go_at_call 12; (with_reducible refine (refAtNode s.AN s.nN s.cN s.nodes n.id _ (hsn.ext0 hx0) hnN _ _ _ _ _ _ _ _).mono ?_); rintro e w1 ⟨rfl, hx1⟩; rw [HI.out]))
  go_ret2
  exact ⟨by rw [H.out]; rfl, hx0.tr hx1⟩
 ·have hna : Fsm.nodeAt s.data n.id = some x := hf
  obtain ⟨hi1, hi2⟩ := List.getElem?_eq_some_iff.1 hxi
  obtain ⟨_, b, off, hAe, hce⟩ := hsn.get (Ext.refl Nothing w) (k := i) (by have := hnl.out; omega)
  rw [hi2] at hce
  have hk0 : (0 : Int) ≤ (i : Int) := by omega
  have hk1 : (i : Int) < s.nN := by have := hnl.out; omega
  have hng : ¬ ((i : Int) < 0) := by omega
  have HI := Lib.hid hi
  have HA := Lib.hid hAe
  have HNA := Lib.hid hna
  clear hi hf hi2 hAe hxi hp hna
  obtain ⟨x0, ⟨x1, x2⟩, x3, x4, x5, x6, x7⟩ := x
  cases x3 with
  | false =>
   have H := Lib.hid (show knownF s.data n = (0, 32) by unfold knownF; rw [HNA.out]; rfl)
   go_enter Tryz.func59, Tryz.ntmps59
   have n0 : ((w.alloc (.cells s.arr 30)).alloc (.cells #[.int .i64 n.id, .int .i64 n.cap.cpu, .int .i64 n.cap.mem, .bool n.up, .bool n.drain, .int .i64 n.boot, .int .i64 n.epoch, .int .i64 n.seq] 43)).cell? ⟨w.heap.size + 1, 0, none⟩ = some (.int .i64 n.id) := hN0.cell 0
   go_wp2_with (first | go_skip | go_guarded | ((with_reducible refine isW ?_); refine wpList_load_blk rfl 30 _ rfl STStore w.heap.size rfl s.arr (show Blk _ _ 30 _ from hB0) rfl ?_) | (go_at_call 12; (with_reducible refine (refAtNode s.AN s.nN s.cN s.nodes n.id _ (hsn.ext0 hx0) hnN _ _ _ _ _ _ _ _).mono ?_); rintro e w1 ⟨rfl, hx1⟩; rw [HI.out]; have hx2 := hx0.tr hx1; have c4 : w1.cell? ⟨w.heap.size, 4, none⟩ = some (.slice (some ⟨b, off, none⟩) s.nN s.cN) := (by rw [← HA.out]; exact (hB0.e0 hx1).cell 4); have k3 : w1.cell? ⟨b, off + i * 8 + 3, none⟩ = some (.bool _) := hx2.cell (hce 3 _ rfl) (fun e => e); have k6 : w1.cell? ⟨b, off + i * 8 + 6, none⟩ = some (.int .i64 x6) := hx2.cell (hce 6 _ rfl) (fun e => e); have n6 : w1.cell? ⟨w.heap.size + 1, 6, none⟩ = some (.int .i64 n.epoch) := (hN0.e0 hx1).cell 6))
   go_quiet (fail)
   go_wp2
   go_ret2
   exact ⟨by rw [H.out]; rfl, (hx0.tr hx1).drewN _⟩
  | true =>
   cases he : (x6 != n.epoch) with
   | true =>
    have H := Lib.hid (show knownF s.data n = (0, 32) by unfold knownF; rw [HNA.out]; simp only []; rw [show (!(x6 == n.epoch)) = true from he]; rfl)
    go_enter Tryz.func59, Tryz.ntmps59
    have n0 : ((w.alloc (.cells s.arr 30)).alloc (.cells #[.int .i64 n.id, .int .i64 n.cap.cpu, .int .i64 n.cap.mem, .bool n.up, .bool n.drain, .int .i64 n.boot, .int .i64 n.epoch, .int .i64 n.seq] 43)).cell? ⟨w.heap.size + 1, 0, none⟩ = some (.int .i64 n.id) := hN0.cell 0
    go_wp2_with (first | go_skip | go_guarded | ((with_reducible refine isW ?_); refine wpList_load_blk rfl 30 _ rfl STStore w.heap.size rfl s.arr (show Blk _ _ 30 _ from hB0) rfl ?_) | (go_at_call 12; (with_reducible refine (refAtNode s.AN s.nN s.cN s.nodes n.id _ (hsn.ext0 hx0) hnN _ _ _ _ _ _ _ _).mono ?_); rintro e w1 ⟨rfl, hx1⟩; rw [HI.out]; have hx2 := hx0.tr hx1; have c4 : w1.cell? ⟨w.heap.size, 4, none⟩ = some (.slice (some ⟨b, off, none⟩) s.nN s.cN) := (by rw [← HA.out]; exact (hB0.e0 hx1).cell 4); have k3 : w1.cell? ⟨b, off + i * 8 + 3, none⟩ = some (.bool _) := hx2.cell (hce 3 _ rfl) (fun e => e); have k6 : w1.cell? ⟨b, off + i * 8 + 6, none⟩ = some (.int .i64 x6) := hx2.cell (hce 6 _ rfl) (fun e => e); have n6 : w1.cell? ⟨w.heap.size + 1, 6, none⟩ = some (.int .i64 n.epoch) := (hN0.e0 hx1).cell 6))
    go_quiet (fail)
    go_wp2
    go_ret2
    exact ⟨by rw [H.out]; rfl, (hx0.tr hx1).drewN _⟩
   | false =>
    have H := Lib.hid (show knownF s.data n = ((i : Int), 0) by unfold knownF; rw [HNA.out]; simp only []; rw [show (!(x6 == n.epoch)) = false from he]; exact congrArg (fun z => (z, (0 : Int))) HI.out)
    go_enter Tryz.func59, Tryz.ntmps59
    have n0 : ((w.alloc (.cells s.arr 30)).alloc (.cells #[.int .i64 n.id, .int .i64 n.cap.cpu, .int .i64 n.cap.mem, .bool n.up, .bool n.drain, .int .i64 n.boot, .int .i64 n.epoch, .int .i64 n.seq] 43)).cell? ⟨w.heap.size + 1, 0, none⟩ = some (.int .i64 n.id) := hN0.cell 0
    go_wp2_with (first | go_skip | go_guarded | ((with_reducible refine isW ?_); refine wpList_load_blk rfl 30 _ rfl STStore w.heap.size rfl s.arr (show Blk _ _ 30 _ from hB0) rfl ?_) | (go_at_call 12; (with_reducible refine (refAtNode s.AN s.nN s.cN s.nodes n.id _ (hsn.ext0 hx0) hnN _ _ _ _ _ _ _ _).mono ?_); rintro e w1 ⟨rfl, hx1⟩; rw [HI.out]; have hx2 := hx0.tr hx1; have c4 : w1.cell? ⟨w.heap.size, 4, none⟩ = some (.slice (some ⟨b, off, none⟩) s.nN s.cN) := (by rw [← HA.out]; exact (hB0.e0 hx1).cell 4); have k3 : w1.cell? ⟨b, off + i * 8 + 3, none⟩ = some (.bool _) := hx2.cell (hce 3 _ rfl) (fun e => e); have k6 : w1.cell? ⟨b, off + i * 8 + 6, none⟩ = some (.int .i64 x6) := hx2.cell (hce 6 _ rfl) (fun e => e); have n6 : w1.cell? ⟨w.heap.size + 1, 6, none⟩ = some (.int .i64 n.epoch) := (hN0.e0 hx1).cell 6))
    go_quiet (fail)
    go_wp2
    go_ret2
    exact ⟨by rw [H.out]; rfl, (hx0.tr hx1).drewN _⟩
set_option maxRecDepth 20000 in
set_option maxHeartbeats 8000000 in
theorem refDown (base : Nat) (s : StoreV) (c : CmdV) (w : World) (h : OwnS base w s) (hc : CmdI base w c) (hb : base ≤ w.heap.size) (hJ : s.jobs.length ≤ 1048576) (hN : s.nodes.length ≤ 1048576) (hA : s.allocs.length ≤ 1048576) (hE : s.evals.length ≤ 16777216) :
  Calls Tryz.prog 32 #[.agg s.arr, .agg c.arr] w fun e w' => ∃ s' r, e = .returned (.tuple #[.agg s'.arr, .agg (resArr r.code r.value)]) ∧ OwnS base w' s' ∧ Fsm.down s.data c.d = (s'.data, r) ∧ r.allocs = [] ∧ Ext (RowB base w) w w' := by
 obtain ⟨hxW, hBW, hCW, hRW, hEW⟩ := enterW w s.arr c.arr #[.int .i64 0, .int .i64 0, .slice none 0 0, .slice none 0 0, .slice none 0 0, .slice none 0 0, .slice none 0 0, .slice none 0 0, .slice none 0 0] #[.int .i64 0, .int .i64 0, .slice none 0 0]
 have hsn := h.slN
 have hnl := Lib.hid h.nl
 have hnN : s.nN ≤ 67108864 := by have := h.nl; omega
 rcases idx_cases (fun x : NodD => x.id == c.node.id) s.nodes with ⟨hi, hf, _⟩ | ⟨i, x, hi, hxi, hp, hf, hfirst⟩
 ·have hkn : knownF s.data c.node = (0, 31) := by unfold knownF; rw [show Fsm.nodeAt s.data c.node.id = none from hf]
  have HF := Lib.hid (show Fsm.down s.data c.d = (s.data, ⟨31, 0, []⟩) by unfold Fsm.down; rw [show Fsm.nodeAt s.data c.d.node.id = none from hf]; rfl)
  clear hi hf
  have HK1 := Lib.hid (show (knownF s.data c.node).1 = 0 by rw [hkn])
  have HK2 := Lib.hid (show (knownF s.data c.node).2 = 31 by rw [hkn])
  clear hkn
  go_enter Tryz.func32, Tryz.ntmps32
  go_upto_region 1 with fail
  generalize ((((w.alloc (.cells s.arr 30)).alloc (.cells c.arr 51)).alloc (.cells #[.int .i64 0, .int .i64 0, .slice none 0 0, .slice none 0 0, .slice none 0 0, .slice none 0 0, .slice none 0 0, .slice none 0 0, .slice none 0 0] 30)).alloc (.cells #[.int .i64 0, .int .i64 0, .slice none 0 0] 34)) = W at hxW hBW hCW hRW hEW ⊢
  have hzW : w.heap.size + 1 + 1 + 1 < W.heap.size := hEW.lt
  have hcn : ∀ j u, c.narr.toList[j]? = some u → W.cell? ⟨w.heap.size + 1, 10 + j, none⟩ = some u := fun j u hu => by rw [hCW.cell]; exact c.ncell j u hu
  go_upto_region 3 with (first | go_skip | ((with_reducible refine isW ?_); refine wpList_load_blk rfl 30 _ rfl STStore w.heap.size rfl s.arr (show Blk _ _ 30 _ from hBW) rfl ?_) | ((with_reducible refine isW ?_); refine wpList_load_at rfl 43 _ rfl STNode (w.heap.size + 1) 10 rfl c.narr hcn rfl ?_) | (go_at_call 59; (with_reducible refine (refKnown base s c.node W (h.keep0 hxW) hN).mono ?_); rintro e w1 ⟨rfl, hx1⟩; (rw [HK1.out, HK2.out])))
  have hBa := hBW.e0 hx1
  have hRa := hRW.e0 hx1
  have hEa := hEW.e0 hx1
  have hxa := hxW.tr hx1
  refine zH (S := fun q => q = (w.heap.size + 1 + 1) ∨ q = (w.heap.size + 1 + 1 + 1)) (by kernel_rfl) (fun Wd hd hd0 => ?_)
  refine zT 0 (.agg s.arr) rfl (by kernel_rfl) (by rfl) hd (fun _ _ _ h => h) ?_ ?_
  ·intro W' hS'
   exact run_load_blk rfl STStore (by go_simp) (hBa.ext hS' (by omega)) rfl
  refine zT 1 (.int .i64 31) rfl (by kernel_rfl) (by rfl) hd (fun _ _ _ h => h) ?_ ?_
  ·intro W' hS'
   go_simp
  simp only [Act.put, zA, zB, zC, zD, zE, zF]
  refine zO 2 (by kernel_rfl) ?_
  refine wpOp_call (f := 16) (args := #[.int .i64 31]) rfl (by rfl) (by go_simp) ((refNo 31 Wd).mono ?_)
  rintro e wn ⟨rfl, hxn⟩
  have hd1 := hd.trans hxn (fun _ _ e => e.elim)
  have hd01 := hd0.tr hxn
  refine ⟨_, rfl, hd1, ?_⟩
  simp only [Act.put, zA, zB, zC, zD, zE, zF]
  refine zO 3 (by kernel_rfl) ?_
  refine wpOp_store (p := (w.heap.size + 1 + 1)) (cs := s.arr) rfl (by rfl) rfl (by go_simp) (by go_simp) (hRa.e0 hd01) rfl STStore rfl rfl (fun w2 hR2 hx2 => ?_)
  have hd2 := hd1.trans hx2 (fun q hq e => .inl e)
  refine ⟨hd2, ?_⟩
  simp only [Act.put, zA, zB, zC, zD, zE, zF]
  refine zO 4 (by kernel_rfl) ?_
  refine wpOp_store (p := (w.heap.size + 1 + 1 + 1)) (cs := resArr 31 0) rfl (by rfl) rfl (by go_simp) (by go_simp) ((hEa.e0 hd01).ext hx2 (fun e => absurd (show (w.heap.size + 1 + 1 + 1) = (w.heap.size + 1 + 1) from e) (by omega))) rfl STResult rfl rfl (fun w3 hE3 hx3' => ?_)
  have hx3 := hd2.trans hx3' (fun q hq e => .inr e)
  have hR3 := hR2.ext hx3' (fun e => absurd (show (w.heap.size + 1 + 1) = (w.heap.size + 1 + 1 + 1) from e) (by omega))
  refine ⟨hx3, wpAnyH_done (by kernel_rfl) ?_ _⟩
  simp only [Act.put, zA, zB, zC, zD, zE, zF]
  go_wp2
  have hxx : Ext Nothing w w3 := hxa.trans hx3 (fun b hb e => by omega)
  exact bodyPost_ret (results_cell2 rfl STStore STResult rfl rfl hR3 rfl hE3 rfl) rfl ⟨s, ⟨31, 0, []⟩, rfl, h.keep0 hxx, HF.out, rfl, hxx.mono (fun _ _ e => e.elim)⟩
 ·have hna : Fsm.nodeAt s.data c.node.id = some x := hf
  have hna' : Fsm.nodeAt s.data c.d.node.id = some x := hf
  have HX := Lib.hid hxi
  have HI := Lib.hid hi
  have HFI := Lib.hid hfirst
  have HP := Lib.hid hp
  have hk0 : (0 : Int) ≤ (i : Int) := by omega
  have hk1 : (i : Int) < s.nN := by have := hnl.out; have := (List.getElem?_eq_some_iff.1 hxi).1; omega
  clear hf hi hxi hfirst hp
  obtain ⟨x0, ⟨x1, x2⟩, x3, x4, x5, x6, x7⟩ := x
  cases hu : (!x3 || !(x6 == c.node.epoch)) with
  | true =>
   have hkn : knownF s.data c.node = (0, 32) := by unfold knownF; rw [hna]; simp only []; rw [hu]; rfl
   have HF := Lib.hid (show Fsm.down s.data c.d = (s.data, ⟨32, 0, []⟩) by unfold Fsm.down; rw [hna']; simp only []; rw [if_pos (show (!x3 || !(x6 == c.d.node.epoch)) = true from hu)]; rfl)
   clear hna hna' hu
   have HK1 := Lib.hid (show (knownF s.data c.node).1 = 0 by rw [hkn])
   have HK2 := Lib.hid (show (knownF s.data c.node).2 = 32 by rw [hkn])
   clear hkn
   go_enter Tryz.func32, Tryz.ntmps32
   go_upto_region 1 with fail
   generalize ((((w.alloc (.cells s.arr 30)).alloc (.cells c.arr 51)).alloc (.cells #[.int .i64 0, .int .i64 0, .slice none 0 0, .slice none 0 0, .slice none 0 0, .slice none 0 0, .slice none 0 0, .slice none 0 0, .slice none 0 0] 30)).alloc (.cells #[.int .i64 0, .int .i64 0, .slice none 0 0] 34)) = W at hxW hBW hCW hRW hEW ⊢
   have hzW : w.heap.size + 1 + 1 + 1 < W.heap.size := hEW.lt
   have hcn : ∀ j u, c.narr.toList[j]? = some u → W.cell? ⟨w.heap.size + 1, 10 + j, none⟩ = some u := fun j u hu => by rw [hCW.cell]; exact c.ncell j u hu
   go_upto_region 3 with (first | go_skip | ((with_reducible refine isW ?_); refine wpList_load_blk rfl 30 _ rfl STStore w.heap.size rfl s.arr (show Blk _ _ 30 _ from hBW) rfl ?_) | ((with_reducible refine isW ?_); refine wpList_load_at rfl 43 _ rfl STNode (w.heap.size + 1) 10 rfl c.narr hcn rfl ?_) | (go_at_call 59; (with_reducible refine (refKnown base s c.node W (h.keep0 hxW) hN).mono ?_); rintro e w1 ⟨rfl, hx1⟩; (rw [HK1.out, HK2.out])))
   have hBa := hBW.e0 hx1
   have hRa := hRW.e0 hx1
   have hEa := hEW.e0 hx1
   have hxa := hxW.tr hx1
   refine zH (S := fun q => q = (w.heap.size + 1 + 1) ∨ q = (w.heap.size + 1 + 1 + 1)) (by kernel_rfl) (fun Wd hd hd0 => ?_)
   refine zT 0 (.agg s.arr) rfl (by kernel_rfl) (by rfl) hd (fun _ _ _ h => h) ?_ ?_
   ·intro W' hS'
    exact run_load_blk rfl STStore (by go_simp) (hBa.ext hS' (by omega)) rfl
   refine zT 1 (.int .i64 32) rfl (by kernel_rfl) (by rfl) hd (fun _ _ _ h => h) ?_ ?_
   ·intro W' hS'
    go_simp
   simp only [Act.put, zA, zB, zC, zD, zE, zF]
   refine zO 2 (by kernel_rfl) ?_
   refine wpOp_call (f := 16) (args := #[.int .i64 32]) rfl (by rfl) (by go_simp) ((refNo 32 Wd).mono ?_)
   rintro e wn ⟨rfl, hxn⟩
   have hd1 := hd.trans hxn (fun _ _ e => e.elim)
   have hd01 := hd0.tr hxn
   refine ⟨_, rfl, hd1, ?_⟩
   simp only [Act.put, zA, zB, zC, zD, zE, zF]
   refine zO 3 (by kernel_rfl) ?_
   refine wpOp_store (p := (w.heap.size + 1 + 1)) (cs := s.arr) rfl (by rfl) rfl (by go_simp) (by go_simp) (hRa.e0 hd01) rfl STStore rfl rfl (fun w2 hR2 hx2 => ?_)
   have hd2 := hd1.trans hx2 (fun q hq e => .inl e)
   refine ⟨hd2, ?_⟩
   simp only [Act.put, zA, zB, zC, zD, zE, zF]
   refine zO 4 (by kernel_rfl) ?_
   refine wpOp_store (p := (w.heap.size + 1 + 1 + 1)) (cs := resArr 32 0) rfl (by rfl) rfl (by go_simp) (by go_simp) ((hEa.e0 hd01).ext hx2 (fun e => absurd (show (w.heap.size + 1 + 1 + 1) = (w.heap.size + 1 + 1) from e) (by omega))) rfl STResult rfl rfl (fun w3 hE3 hx3' => ?_)
   have hx3 := hd2.trans hx3' (fun q hq e => .inr e)
   have hR3 := hR2.ext hx3' (fun e => absurd (show (w.heap.size + 1 + 1) = (w.heap.size + 1 + 1 + 1) from e) (by omega))
   refine ⟨hx3, wpAnyH_done (by kernel_rfl) ?_ _⟩
   simp only [Act.put, zA, zB, zC, zD, zE, zF]
   go_wp2
   have hxx : Ext Nothing w w3 := hxa.trans hx3 (fun b hb e => by omega)
   exact bodyPost_ret (results_cell2 rfl STStore STResult rfl rfl hR3 rfl hE3 rfl) rfl ⟨s, ⟨32, 0, []⟩, rfl, h.keep0 hxx, HF.out, rfl, hxx.mono (fun _ _ e => e.elim)⟩
  | false =>
   have hkn : knownF s.data c.node = ((i : Int), 0) := by unfold knownF; rw [hna]; simp only []; rw [hu]; exact congrArg (fun z => (z, (0 : Int))) HI.out
   have HU := Lib.hid hu
   have HNA := Lib.hid hna'
   clear hna hna' hu
   have HK1 := Lib.hid (show (knownF s.data c.node).1 = (i : Int) by rw [hkn])
   have HK2 := Lib.hid (show (knownF s.data c.node).2 = 0 by rw [hkn])
   clear hkn
   go_enter Tryz.func32, Tryz.ntmps32
   go_upto_region 1 with fail
   generalize ((((w.alloc (.cells s.arr 30)).alloc (.cells c.arr 51)).alloc (.cells #[.int .i64 0, .int .i64 0, .slice none 0 0, .slice none 0 0, .slice none 0 0, .slice none 0 0, .slice none 0 0, .slice none 0 0, .slice none 0 0] 30)).alloc (.cells #[.int .i64 0, .int .i64 0, .slice none 0 0] 34)) = W at hxW hBW hCW hRW hEW ⊢
   have hzW : w.heap.size + 1 + 1 + 1 < W.heap.size := hEW.lt
   have hcn : ∀ j u, c.narr.toList[j]? = some u → W.cell? ⟨w.heap.size + 1, 10 + j, none⟩ = some u := fun j u hu => by rw [hCW.cell]; exact c.ncell j u hu
   obtain ⟨g, cur, hAe, hob, hgb, _, hce, _⟩ := (h.keep0 hxW).putN HX.out
   have hgge : RowB base w g := RowB.of_own h.n (by decide) hob
   have hglt : g < w.heap.size := own_lt h.n hob
   have HA := Lib.hid (show s.AN = some ⟨g, 0, none⟩ from hAe)
   have c16 : W.cell? ⟨w.heap.size + 1, 17, none⟩ = some (.int .i64 c.node.seq) := hCW.cell 17
   clear hAe
   go_upto_region 4 with (first | go_skip | ((with_reducible refine isW ?_); refine wpList_load_blk rfl 30 _ rfl STStore w.heap.size rfl s.arr (show Blk _ _ 30 _ from hBW) rfl ?_) | ((with_reducible refine isW ?_); refine wpList_load_at rfl 43 _ rfl STNode (w.heap.size + 1) 10 rfl c.narr hcn rfl ?_) | (go_at_call 59; (with_reducible refine (refKnown base s c.node W (h.keep0 hxW) hN).mono ?_); rintro e w1 ⟨rfl, hx1⟩; (rw [HK1.out, HK2.out]); have c4 : w1.cell? ⟨w.heap.size, 4, none⟩ = some (.slice (some ⟨g, 0, none⟩) s.nN s.cN) := (by rw [← HA.out]; exact (hBW.e0 hx1).cell 4); have k7 : w1.cell? ⟨g, i * 8 + 7, none⟩ = some (.int .i64 x7) := hx1.cell (hce 7 _ rfl) (fun e => e); have c17 : w1.cell? ⟨w.heap.size + 1, 17, none⟩ = some (.int .i64 c.node.seq) := (hCW.e0 hx1).cell 17))
   go_quiet (fail)
   have hdq := (Ext.refl Nothing w1).drewN nq
   generalize w1.drewN nq = wq at hdq ⊢
   have hx1q := hx1.tr hdq
   have hBa := hBW.e0 hx1q
   have hCa := hCW.e0 hx1q
   have hRa := hRW.e0 hx1q
   have hEa := hEW.e0 hx1q
   have hxa := hxW.tr hx1q
   cases hs7 : (x7 != c.node.seq) with
   | true =>
    have HF := Lib.hid (show Fsm.down s.data c.d = (s.data, ⟨33, 0, []⟩) by
     unfold Fsm.down; rw [HNA.out]; simp only []
     rw [if_neg (show ¬ (!x3 || !(x6 == c.d.node.epoch)) = true from by rw [show (!x3 || !(x6 == c.d.node.epoch)) = false from HU.out]; exact Bool.false_ne_true), if_pos (show (!(x7 == c.d.node.seq)) = true from hs7)]; rfl)
    go_upto_region 5 with (first | go_skip)
    refine zH (S := fun q => q = (w.heap.size + 1 + 1) ∨ q = (w.heap.size + 1 + 1 + 1)) (by kernel_rfl) (fun Wd hd hd0 => ?_)
    refine zT 0 (.agg s.arr) rfl (by kernel_rfl) (by rfl) hd (fun _ _ _ h => h) ?_ ?_
    ·intro W' hS'
     exact run_load_blk rfl STStore (by go_simp) (hBa.ext hS' (by omega)) rfl
    simp only [Act.put, zA, zB, zC, zD, zE, zF]
    refine zO 1 (by kernel_rfl) ?_
    refine wpOp_call (f := 16) (args := #[.int .i64 33]) rfl (by rfl) (by go_simp) ((refNo 33 Wd).mono ?_)
    rintro e wn ⟨rfl, hxn⟩
    have hd1 := hd.trans hxn (fun _ _ e => e.elim)
    have hd01 := hd0.tr hxn
    refine ⟨_, rfl, hd1, ?_⟩
    simp only [Act.put, zA, zB, zC, zD, zE, zF]
    refine zO 2 (by kernel_rfl) ?_
    refine wpOp_store (p := (w.heap.size + 1 + 1)) (cs := s.arr) rfl (by rfl) rfl (by go_simp) (by go_simp) (hRa.e0 hd01) rfl STStore rfl rfl (fun w2 hR2 hx2 => ?_)
    have hd2 := hd1.trans hx2 (fun q hq e => .inl e)
    refine ⟨hd2, ?_⟩
    simp only [Act.put, zA, zB, zC, zD, zE, zF]
    refine zO 3 (by kernel_rfl) ?_
    refine wpOp_store (p := (w.heap.size + 1 + 1 + 1)) (cs := resArr 33 0) rfl (by rfl) rfl (by go_simp) (by go_simp) ((hEa.e0 hd01).ext hx2 (fun e => absurd (show (w.heap.size + 1 + 1 + 1) = (w.heap.size + 1 + 1) from e) (by omega))) rfl STResult rfl rfl (fun w3 hE3 hx3' => ?_)
    have hx3 := hd2.trans hx3' (fun q hq e => .inr e)
    have hR3 := hR2.ext hx3' (fun e => absurd (show (w.heap.size + 1 + 1) = (w.heap.size + 1 + 1 + 1) from e) (by omega))
    refine ⟨hx3, wpAnyH_done (by kernel_rfl) ?_ _⟩
    simp only [Act.put, zA, zB, zC, zD, zE, zF]
    go_wp2
    have hxx : Ext Nothing w w3 := hxa.trans hx3 (fun b hb e => by omega)
    exact bodyPost_ret (results_cell2 rfl STStore STResult rfl rfl hR3 rfl hE3 rfl) rfl ⟨s, ⟨33, 0, []⟩, rfl, h.keep0 hxx, HF.out, rfl, hxx.mono (fun _ _ e => e.elim)⟩
   | false =>
    have HF := Lib.hid (show Fsm.down s.data c.d = (Fsm.system (Fsm.lost { s.data with nodes := s.nodes.set i ⟨x0, ⟨x1, x2⟩, false, x4, x5, wrap64 (x6 + 1), x7⟩ } c.node.id), ⟨0, 0, []⟩) by
     unfold Fsm.down; rw [HNA.out]; simp only []
     rw [if_neg (show ¬ (!x3 || !(x6 == c.d.node.epoch)) = true from by rw [show (!x3 || !(x6 == c.d.node.epoch)) = false from HU.out]; exact Bool.false_ne_true), if_neg (show ¬ (!(x7 == c.d.node.seq)) = true from by rw [show (!(x7 == c.d.node.seq)) = false from hs7]; exact Bool.false_ne_true)]
     rw [show Fsm.turn1 (fun n => n.id == c.d.node.id) (fun n => { n with up := false, epoch := wrap64 (n.epoch + 1) }) s.data.nodes = _ from Fsm.turn1_set (f := fun n : NodD => { n with up := false, epoch := wrap64 (n.epoch + 1) }) HX.out HP.out HFI.out]; rfl)
    have hOq := h.keep0 hxa
    obtain ⟨g', cur', hAe', _, hgb', _, hce', hput'⟩ := hOq.putN HX.out
    have hgg : g = g' := by have h7 : s.AN = some ⟨g', 0, none⟩ := hAe'; rw [HA.out] at h7; injection h7 with h7; injection h7
    subst hgg
    have hO6 : OwnS base (wq.setCell ⟨g, i * 8 + 3, none⟩ (.bool false)) ({ s with nodes := s.nodes.set i ⟨x0, ⟨x1, x2⟩, false, x4, x5, x6, x7⟩ } : StoreV) := hput' 3 (.bool false) ⟨x0, ⟨x1, x2⟩, false, x4, x5, x6, x7⟩ (by decide) rfl
    have hi6 : (s.nodes.set i ⟨x0, ⟨x1, x2⟩, false, x4, x5, x6, x7⟩)[i]? = some ⟨x0, ⟨x1, x2⟩, false, x4, x5, x6, x7⟩ := by rw [List.getElem?_set]; simp; exact (List.getElem?_eq_some_iff.1 HX.out).1
    obtain ⟨g6, cur6, hAe6, _, hgb6, _, hce6, hput6⟩ := hO6.putN hi6
    have hgg : g = g6 := by have h7 : s.AN = some ⟨g6, 0, none⟩ := hAe6; rw [HA.out] at h7; injection h7 with h7; injection h7
    subst hgg
    have hO7 : OwnS base ((wq.setCell ⟨g, i * 8 + 3, none⟩ (.bool false)).setCell ⟨g, i * 8 + 6, none⟩ (.int .i64 (wrap64 (x6 + 1)))) ({ s with nodes := (s.nodes.set i ⟨x0, ⟨x1, x2⟩, false, x4, x5, x6, x7⟩).set i ⟨x0, ⟨x1, x2⟩, false, x4, x5, wrap64 (x6 + 1), x7⟩ } : StoreV) := hput6 6 (.int .i64 (wrap64 (x6 + 1))) ⟨x0, ⟨x1, x2⟩, false, x4, x5, wrap64 (x6 + 1), x7⟩ (by decide) rfl
    rw [List.set_set] at hO7
    have hs6 : Ext (fun b => b = g) wq (wq.setCell ⟨g, i * 8 + 3, none⟩ (.bool false)) := Ext.set1 _ _ _ _
    have hs7' : Ext (fun b => b = g) (wq.setCell ⟨g, i * 8 + 3, none⟩ (.bool false)) ((wq.setCell ⟨g, i * 8 + 3, none⟩ (.bool false)).setCell ⟨g, i * 8 + 6, none⟩ (.int .i64 (wrap64 (x6 + 1)))) := Ext.set1 _ _ _ _
    have hs67 := hs6.tr hs7'
    have c4q : wq.cell? ⟨w.heap.size, 4, none⟩ = some (.slice (some ⟨g, 0, none⟩) s.nN s.cN) := hdq.c0 c4
    have k3q : wq.cell? ⟨g, i * 8 + 3, none⟩ = some (.bool x3) := hce' 3 _ rfl
    have f3q : wq.frozen? ⟨g, i * 8 + 3, none⟩ = false := hgb'.frozen _
    have c46 : (wq.setCell ⟨g, i * 8 + 3, none⟩ (.bool false)).cell? ⟨w.heap.size, 4, none⟩ = some (.slice (some ⟨g, 0, none⟩) s.nN s.cN) := hs6.cell c4q (fun e => absurd (show w.heap.size = g from e) (by omega))
    have k66 : (wq.setCell ⟨g, i * 8 + 3, none⟩ (.bool false)).cell? ⟨g, i * 8 + 6, none⟩ = some (.int .i64 x6) := hce6 6 _ rfl
    have f66 : (wq.setCell ⟨g, i * 8 + 3, none⟩ (.bool false)).frozen? ⟨g, i * 8 + 6, none⟩ = false := hgb6.frozen _
    go_upto_region 8 with (first | go_skip)
    have hB7 := hBa.ext hs67 (fun e => absurd (show w.heap.size = g from e) (by omega))
    have hC7 := hCa.ext hs67 (fun e => absurd (show w.heap.size + 1 = g from e) (by omega))
    have hR7 := hRa.ext hs67 (fun e => absurd (show w.heap.size + 1 + 1 = g from e) (by omega))
    have hE7 := hEa.ext hs67 (fun e => absurd (show w.heap.size + 1 + 1 + 1 = g from e) (by omega))
    have hx7 : Ext (RowB base w) w ((wq.setCell ⟨g, i * 8 + 3, none⟩ (.bool false)).setCell ⟨g, i * 8 + 6, none⟩ (.int .i64 (wrap64 (x6 + 1)))) := (hxa.mono (S' := RowB base w) (fun _ _ e => e.elim)).trans hs67 (fun b hb e => by rw [show b = g from e]; exact hgge)
    clear hAe' hAe6 hput' hput6 hce' hce6 c4q k3q f3q c46 k66 f66 hs6 hs7' hs67 hO6
    generalize ((wq.setCell ⟨g, i * 8 + 3, none⟩ (.bool false)).setCell ⟨g, i * 8 + 6, none⟩ (.int .i64 (wrap64 (x6 + 1)))) = w7 at hO7 hB7 hC7 hR7 hE7 hx7 ⊢
    have c10 : w7.cell? ⟨w.heap.size + 1, 10, none⟩ = some (.int .i64 c.node.id) := hC7.cell 10
    have hb7 : base ≤ w7.heap.size := by have := hx7.size; omega
    have hge7 : ∀ b, (vA ({ s with nodes := s.nodes.set i ⟨x0, ⟨x1, x2⟩, false, x4, x5, wrap64 (x6 + 1), x7⟩ } : StoreV)).ownBlock = some b → base ≤ b ∧ b < w.heap.size := fun b hb => ⟨own_ge h.a hb, own_lt h.a hb⟩
    have hJv : ({ s with nodes := s.nodes.set i ⟨x0, ⟨x1, x2⟩, false, x4, x5, wrap64 (x6 + 1), x7⟩ } : StoreV).jobs.length ≤ 1048576 := hJ
    have hAv : ({ s with nodes := s.nodes.set i ⟨x0, ⟨x1, x2⟩, false, x4, x5, wrap64 (x6 + 1), x7⟩ } : StoreV).allocs.length ≤ 1048576 := hA
    have hEv : ({ s with nodes := s.nodes.set i ⟨x0, ⟨x1, x2⟩, false, x4, x5, wrap64 (x6 + 1), x7⟩ } : StoreV).evals.length ≤ 33554432 := by show s.evals.length ≤ _; omega
    go_wp2_with (first | go_skip | ((with_reducible refine isW ?_); refine wpList_load_blk rfl 30 _ rfl STStore w.heap.size rfl ({ s with nodes := s.nodes.set i ⟨x0, ⟨x1, x2⟩, false, x4, x5, wrap64 (x6 + 1), x7⟩ } : StoreV).arr (show Blk _ _ 30 _ from hB7) rfl ?_) | (go_at_call 57; (with_reducible refine (refLost base ({ s with nodes := s.nodes.set i ⟨x0, ⟨x1, x2⟩, false, x4, x5, wrap64 (x6 + 1), x7⟩ } : StoreV) c.node.id w7 hO7 hb7 hJv hAv hEv).mono ?_); rintro e wl ⟨s1, rfl, hOl, hdl, hel, ⟨aL, AL, nL, cL, lL, hlaL, rfl⟩, hxl⟩; have hbl : base ≤ wl.heap.size := (by have := hxl.size; omega); have hEl : lL.length ≤ 33554432 := (by have h1 : lL.length ≤ s.evals.length + s.allocs.length := hel; omega); have hRl := hR7.ext hxl (fun e => by have := hge7 _ e; omega); have hEl2 := hE7.ext hxl (fun e => by have := hge7 _ e; omega)) | (go_at_call 56; (with_reducible refine (refSystem base _ wl hOl hbl hJ hEl).mono ?_); rintro e w8 ⟨s2, rfl, hO8, hd8, _, hx8⟩; have hR8 := hRl.e0 hx8; have hE8 := hEl2.e0 hx8) | ((with_reducible refine isW ?_); refine wpList_store_blk rfl 30 _ _ rfl STStore (w.heap.size + 1 + 1) rfl s2.arr rfl hR8 rfl rfl rfl ?_; intro w9 hR9 hx9) | ((with_reducible refine isW ?_); refine wpList_store_blk rfl 34 _ _ rfl STResult (w.heap.size + 1 + 1 + 1) rfl (resArr 0 0) rfl (hE8.ext hx9 (fun e => absurd (show w.heap.size + 1 + 1 + 1 = w.heap.size + 1 + 1 from e) (by omega))) rfl rfl rfl ?_; intro wt hEt hxt))
    have hRt := hR9.ext hxt (fun e => absurd (show w.heap.size + 1 + 1 = w.heap.size + 1 + 1 + 1 from e) (by omega))
    have hx89 : Ext (fun b => b = w.heap.size + 1 + 1 ∨ b = w.heap.size + 1 + 1 + 1) w8 wt := (hx9.mono (S' := fun b => b = w.heap.size + 1 + 1 ∨ b = w.heap.size + 1 + 1 + 1) (fun _ _ e => .inl e)).trans hxt (fun _ _ e => .inr e)
    have hOt := (hO8.keep hx9 (Apart.one hR8 (by decide))).keep hxt (Apart.one (hE8.ext hx9 (fun e => absurd (show w.heap.size + 1 + 1 + 1 = w.heap.size + 1 + 1 from e) (by omega))) (by decide))
    have hdt : Fsm.down s.data c.d = (s2.data, ⟨0, 0, []⟩) := by rw [HF.out, hd8, hdl]; rfl
    exact bodyPost_ret (results_cell2 rfl STStore STResult rfl rfl hRt rfl hEt rfl) rfl ⟨s2, ⟨0, 0, []⟩, rfl, hOt, hdt, rfl, (((hx7.trans hxl (fun b hb e => RowB.of_own h.a (by decide) e)).trans hx8 (fun _ _ e => e.elim))).trans hx89 (fun b hb e => by omega)⟩
end Go.Proofs.YtlpfcmnnmdhaoaaGreat
