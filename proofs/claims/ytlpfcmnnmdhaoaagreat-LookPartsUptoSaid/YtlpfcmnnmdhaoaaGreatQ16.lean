/- Parts of the proof: RefB -/
import Derived.Deep.CutRange
import Derived.Test.YtlpfcmnnmdhaoaaGreatQ15
namespace Go.Proofs.YtlpfcmnnmdhaoaaGreat
set_option linter.unusedVariables false
set_option linter.unusedSimpArgs false
set_option linter.unusedSectionVars false
open Go.RowKit
set_option maxRecDepth 20000 in
set_option maxHeartbeats 4000000 in
theorem refBegins (base : Nat) (s : StoreV) (x0 x1 x2 x3 : Int) (xg : List GroupD) (x5 : Int) (x6 : Bool) (AG : Option Addr) (nG cG : Nat) (w : World) (h : OwnS base w s) (hb : base ≤ w.heap.size) (hJ : s.jobs.length ≤ 1048575) (hA : s.allocs.length ≤ 1048576) (hDl : s.deploys.length ≤ 1048575) (hS : s.stable.length ≤ 33554432) (hE : s.evals.length ≤ 33554432)
  (hgs : Sl w 3 AG nG (xg.map GroupD.cells)) (hnG : nG ≤ 1048576) :
  Calls Tryz.prog 52 #[.agg s.arr, .agg #[.int .i64 x0, .int .i64 x1, .int .i64 x2, .int .i64 x3, .slice AG nG cG, .int .i64 x5, .bool x6]] w fun e w' => ∃ s', e = .returned (.agg s'.arr) ∧ OwnS base w' s' ∧ s'.data = Fsm.begins s.data ⟨x0, x1, x2, x3, xg, x5, x6⟩ ∧ Ext Nothing w w' := by
 have hx0 : Ext Nothing w (((w.alloc (.cells s.arr 30)).alloc (.cells #[.int .i64 x0, .int .i64 x1, .int .i64 x2, .int .i64 x3, .slice AG nG cG, .int .i64 x5, .bool x6] 39)).alloc (.cells #[.int .i64 0, .int .i64 0, .slice none 0 0, .slice none 0 0, .slice none 0 0, .slice none 0 0, .slice none 0 0, .slice none 0 0, .slice none 0 0] 30)) := Ext.auto
 have hB0 : Blk (((w.alloc (.cells s.arr 30)).alloc (.cells #[.int .i64 x0, .int .i64 x1, .int .i64 x2, .int .i64 x3, .slice AG nG cG, .int .i64 x5, .bool x6] 39)).alloc (.cells #[.int .i64 0, .int .i64 0, .slice none 0 0, .slice none 0 0, .slice none 0 0, .slice none 0 0, .slice none 0 0, .slice none 0 0, .slice none 0 0] 30)) w.heap.size 30 s.arr := (Blk.new w _ _).e0 Ext.auto
 have hJ0 : Blk (((w.alloc (.cells s.arr 30)).alloc (.cells #[.int .i64 x0, .int .i64 x1, .int .i64 x2, .int .i64 x3, .slice AG nG cG, .int .i64 x5, .bool x6] 39)).alloc (.cells #[.int .i64 0, .int .i64 0, .slice none 0 0, .slice none 0 0, .slice none 0 0, .slice none 0 0, .slice none 0 0, .slice none 0 0, .slice none 0 0] 30)) (w.heap.size + 1) 39 #[.int .i64 x0, .int .i64 x1, .int .i64 x2, .int .i64 x3, .slice AG nG cG, .int .i64 x5, .bool x6] := (Blk.new' (w.alloc (.cells s.arr 30)) _ _ (by simp)).e0 Ext.auto
 have hR0 : Blk (((w.alloc (.cells s.arr 30)).alloc (.cells #[.int .i64 x0, .int .i64 x1, .int .i64 x2, .int .i64 x3, .slice AG nG cG, .int .i64 x5, .bool x6] 39)).alloc (.cells #[.int .i64 0, .int .i64 0, .slice none 0 0, .slice none 0 0, .slice none 0 0, .slice none 0 0, .slice none 0 0, .slice none 0 0, .slice none 0 0] 30)) (w.heap.size + 1 + 1) 30 #[.int .i64 0, .int .i64 0, .slice none 0 0, .slice none 0 0, .slice none 0 0, .slice none 0 0, .slice none 0 0, .slice none 0 0, .slice none 0 0] := Blk.new' _ _ _ (by simp)
 have h0 := h.keep0 hx0
 have hgs0 := hgs.ext0 hx0
 have hnGl := Lib.hid hgs.len
 have hjl := Lib.hid h.jl
 have hbg : Fsm.begins s.data ⟨x0, x1, x2, x3, xg, x5, x6⟩ = Fsm.eval (if x1 == 1 then Fsm.looked ({ ({ s.data with jobs := Fsm.putL JobD.id ⟨x0, x1, x2, x3, xg, x5, x6⟩ s.data.jobs } : StoreD) with deploys := Fsm.putL DepD.job ⟨x0, x5, 1, s.index⟩ s.data.deploys } : StoreD) else { s.data with jobs := Fsm.putL JobD.id ⟨x0, x1, x2, x3, xg, x5, x6⟩ s.data.jobs }) x0 := rfl
 have HBG := Lib.hid hbg
 clear hbg
 have hzW : w.heap.size + 1 + 1 < (((w.alloc (.cells s.arr 30)).alloc (.cells #[.int .i64 x0, .int .i64 x1, .int .i64 x2, .int .i64 x3, .slice AG nG cG, .int .i64 x5, .bool x6] 39)).alloc (.cells #[.int .i64 0, .int .i64 0, .slice none 0 0, .slice none 0 0, .slice none 0 0, .slice none 0 0, .slice none 0 0, .slice none 0 0, .slice none 0 0] 30)).heap.size := hR0.lt
 have c2 : (((w.alloc (.cells s.arr 30)).alloc (.cells #[.int .i64 x0, .int .i64 x1, .int .i64 x2, .int .i64 x3, .slice AG nG cG, .int .i64 x5, .bool x6] 39)).alloc (.cells #[.int .i64 0, .int .i64 0, .slice none 0 0, .slice none 0 0, .slice none 0 0, .slice none 0 0, .slice none 0 0, .slice none 0 0, .slice none 0 0] 30)).cell? ⟨w.heap.size, 2, none⟩ = some (.slice s.AJ s.nJ s.cJ) := hB0.cell 2
 cases hty : (x1 == 1) with
 | false =>
  have HBG2 := Lib.hid (HBG.out.trans (by rw [hty]; rfl : _ = Fsm.eval { s.data with jobs := Fsm.putL JobD.id ⟨x0, x1, x2, x3, xg, x5, x6⟩ s.data.jobs } x0))
  go_enter Tryz.func52, Tryz.ntmps52
  go_upto_region 2 with (first | go_skip | ((with_reducible refine isW ?_); refine wpList_load_blk rfl 39 _ rfl STJob (w.heap.size + 1) rfl #[.int .i64 x0, .int .i64 x1, .int .i64 x2, .int .i64 x3, .slice AG nG cG, .int .i64 x5, .bool x6] (show Blk _ _ 39 _ from hJ0) rfl ?_) | (go_at_call 78; (with_reducible refine (refJobs s.AJ s.nJ s.cJ s.jobs x0 x1 x2 x3 xg x5 x6 AG nG cG _ h0.slJ (by omega) (fun y hy => (h0.j.grp y hy).slice) hgs0 hnG).mono ?_); rintro e w1 ⟨A1, c1, AG1, cG1, rfl, ho1, hg1, hx1⟩; have hB1 := hB0.e0 hx1; have q2 : w1.cell? ⟨w.heap.size, 2, none⟩ = some (.slice s.AJ s.nJ s.cJ) := hB1.cell 2; have fr1 : w1.frozen? ⟨w.heap.size, 2, none⟩ = false := hB1.frozen 2; have t1 : w1.cell? ⟨w.heap.size + 1, 1, none⟩ = some (.int .i64 x1) := (hJ0.e0 hx1).cell 1))
  have hz0 := hx0.size
  have hb0 : base ≤ (((w.alloc (.cells s.arr 30)).alloc (.cells #[.int .i64 x0, .int .i64 x1, .int .i64 x2, .int .i64 x3, .slice AG nG cG, .int .i64 x5, .bool x6] 39)).alloc (.cells #[.int .i64 0, .int .i64 0, .slice none 0 0, .slice none 0 0, .slice none 0 0, .slice none 0 0, .slice none 0 0, .slice none 0 0, .slice none 0 0] 30)).heap.size := by omega
  have hO1 := h0.wJ2 hx1 ho1 (Fsm.putL_all (P := GrpOk base w1) (fun y hy => ((h0.j.grp y hy).keep hx1 Apart.none)) (GrpOk.new (j := ⟨x0, x1, x2, x3, xg, x5, x6⟩) hg1 hnGl.out hnG hb0)) hb0
  have hs1 : Ext (fun b => b = w.heap.size) w1 (w1.setCell ⟨w.heap.size, 2, none⟩ (.slice A1 (Fsm.putL (fun x : JobV => x.1.id) (⟨x0, x1, x2, x3, xg, x5, x6⟩, .slice AG1 nG cG1) s.jobs).length c1)) := Ext.set1 _ _ _ _
  have hO2 : OwnS base (w1.setCell ⟨w.heap.size, 2, none⟩ (.slice A1 (Fsm.putL (fun x : JobV => x.1.id) (⟨x0, x1, x2, x3, xg, x5, x6⟩, .slice AG1 nG cG1) s.jobs).length c1)) (s.setJ A1 c1 (Fsm.putL (fun x : JobV => x.1.id) (⟨x0, x1, x2, x3, xg, x5, x6⟩, .slice AG1 nG cG1) s.jobs)) := hO1.keep hs1 (Apart.one hB1 (by decide))
  have hB2 : Blk (w1.setCell ⟨w.heap.size, 2, none⟩ (.slice A1 (Fsm.putL (fun x : JobV => x.1.id) (⟨x0, x1, x2, x3, xg, x5, x6⟩, .slice AG1 nG cG1) s.jobs).length c1)) w.heap.size 30 (s.setJ A1 c1 (Fsm.putL (fun x : JobV => x.1.id) (⟨x0, x1, x2, x3, xg, x5, x6⟩, .slice AG1 nG cG1) s.jobs)).arr := hB1.set_ 2 _
  have hJ2 : Blk (w1.setCell ⟨w.heap.size, 2, none⟩ (.slice A1 (Fsm.putL (fun x : JobV => x.1.id) (⟨x0, x1, x2, x3, xg, x5, x6⟩, .slice AG1 nG cG1) s.jobs).length c1)) (w.heap.size + 1) 39 _ := (hJ0.e0 hx1).ext hs1 (fun e => absurd (show w.heap.size + 1 = w.heap.size from e) (by omega))
  have hR2 : Blk (w1.setCell ⟨w.heap.size, 2, none⟩ (.slice A1 (Fsm.putL (fun x : JobV => x.1.id) (⟨x0, x1, x2, x3, xg, x5, x6⟩, .slice AG1 nG cG1) s.jobs).length c1)) (w.heap.size + 1 + 1) 30 _ := (hR0.e0 hx1).ext hs1 (fun e => absurd (show w.heap.size + 1 + 1 = w.heap.size from e) (by omega))
  have hx2 : Ext Nothing w (w1.setCell ⟨w.heap.size, 2, none⟩ (.slice A1 (Fsm.putL (fun x : JobV => x.1.id) (⟨x0, x1, x2, x3, xg, x5, x6⟩, .slice AG1 nG cG1) s.jobs).length c1)) := (hx0.tr hx1).trans hs1 (fun b hb e => absurd (show b = w.heap.size from e) (by omega))
  have HL1 := Lib.hid (Fsm.putL_len (key := fun x : JobV => x.1.id) (x := ((⟨x0, x1, x2, x3, xg, x5, x6⟩, .slice AG1 nG cG1) : JobV)) s.jobs)
  have hd1 := Lib.hid (putL_map (⟨x0, x1, x2, x3, xg, x5, x6⟩, .slice AG1 nG cG1) s.jobs)
  clear t1 q2 fr1 hO1 hs1 ho1 hg1
  generalize (w1.setCell ⟨w.heap.size, 2, none⟩ (.slice A1 (Fsm.putL (fun x : JobV => x.1.id) (⟨x0, x1, x2, x3, xg, x5, x6⟩, .slice AG1 nG cG1) s.jobs).length c1)) = w2 at hO2 hB2 hJ2 hR2 hx2 ⊢
  have t1 : w2.cell? ⟨w.heap.size + 1, 1, none⟩ = some (.int .i64 x1) := hJ2.cell 1
  have t0 : w2.cell? ⟨w.heap.size + 1, 0, none⟩ = some (.int .i64 x0) := hJ2.cell 0
  have hbz : base ≤ w2.heap.size := by have := hx2.size; omega
  have hJz : (s.setJ A1 c1 (Fsm.putL (fun x : JobV => x.1.id) (⟨x0, x1, x2, x3, xg, x5, x6⟩, .slice AG1 nG cG1) s.jobs)).jobs.length ≤ 67108864 := by show (Fsm.putL (fun x : JobV => x.1.id) (⟨x0, x1, x2, x3, xg, x5, x6⟩, .slice AG1 nG cG1) s.jobs).length ≤ _; have := HL1.out; omega
  have hEz : (s.setJ A1 c1 (Fsm.putL (fun x : JobV => x.1.id) (⟨x0, x1, x2, x3, xg, x5, x6⟩, .slice AG1 nG cG1) s.jobs)).evals.length < 67108862 := by show s.evals.length < _; omega
  go_wp2_with (first | go_skip | ((with_reducible refine isW ?_); refine wpList_load_blk rfl 30 _ rfl STStore w.heap.size rfl (s.setJ A1 c1 (Fsm.putL (fun x : JobV => x.1.id) (⟨x0, x1, x2, x3, xg, x5, x6⟩, .slice AG1 nG cG1) s.jobs)).arr hB2 rfl ?_) | (go_at_call 54; (with_reducible refine (refEval base (s.setJ A1 c1 (Fsm.putL (fun x : JobV => x.1.id) (⟨x0, x1, x2, x3, xg, x5, x6⟩, .slice AG1 nG cG1) s.jobs)) x0 w2 hO2 hbz hJz hEz).mono ?_); rintro e w6 ⟨s6, rfl, hO6, hd6, _, hx6⟩; have hR6 := hR2.e0 hx6) | ((with_reducible refine isW ?_); refine wpList_store_blk rfl 30 _ _ rfl STStore (w.heap.size + 1 + 1) rfl s6.arr rfl hR6 rfl rfl rfl ?_; intro w7 hR7 hx7))
  have hdd : s6.data = Fsm.begins s.data ⟨x0, x1, x2, x3, xg, x5, x6⟩ := by
   rw [HBG2.out, hd6]
   exact congrArg (fun z => Fsm.eval ({ s.data with jobs := z } : StoreD) x0) hd1.out
  exact bodyPost_ret (results_cell rfl STStore (g := w.heap.size + 1 + 1) rfl hR7 rfl) rfl ⟨s6, rfl, hO6.keep hx7 (Apart.one hR6 (by decide)), hdd, (hx2.tr hx6).trans hx7 (fun b hb e => absurd (show b = w.heap.size + 1 + 1 from e) (by omega))⟩
 | true =>
  have HBG2 := Lib.hid (HBG.out.trans (by rw [hty]; rfl : _ = Fsm.eval (Fsm.looked ({ ({ s.data with jobs := Fsm.putL JobD.id ⟨x0, x1, x2, x3, xg, x5, x6⟩ s.data.jobs } : StoreD) with deploys := Fsm.putL DepD.job ⟨x0, x5, 1, s.index⟩ s.data.deploys } : StoreD)) x0))
  go_enter Tryz.func52, Tryz.ntmps52
  go_upto_region 2 with (first | go_skip | ((with_reducible refine isW ?_); refine wpList_load_blk rfl 39 _ rfl STJob (w.heap.size + 1) rfl #[.int .i64 x0, .int .i64 x1, .int .i64 x2, .int .i64 x3, .slice AG nG cG, .int .i64 x5, .bool x6] (show Blk _ _ 39 _ from hJ0) rfl ?_) | (go_at_call 78; (with_reducible refine (refJobs s.AJ s.nJ s.cJ s.jobs x0 x1 x2 x3 xg x5 x6 AG nG cG _ h0.slJ (by omega) (fun y hy => (h0.j.grp y hy).slice) hgs0 hnG).mono ?_); rintro e w1 ⟨A1, c1, AG1, cG1, rfl, ho1, hg1, hx1⟩; have hB1 := hB0.e0 hx1; have q2 : w1.cell? ⟨w.heap.size, 2, none⟩ = some (.slice s.AJ s.nJ s.cJ) := hB1.cell 2; have fr1 : w1.frozen? ⟨w.heap.size, 2, none⟩ = false := hB1.frozen 2; have t1 : w1.cell? ⟨w.heap.size + 1, 1, none⟩ = some (.int .i64 x1) := (hJ0.e0 hx1).cell 1))
  have hz0 := hx0.size
  have hb0 : base ≤ (((w.alloc (.cells s.arr 30)).alloc (.cells #[.int .i64 x0, .int .i64 x1, .int .i64 x2, .int .i64 x3, .slice AG nG cG, .int .i64 x5, .bool x6] 39)).alloc (.cells #[.int .i64 0, .int .i64 0, .slice none 0 0, .slice none 0 0, .slice none 0 0, .slice none 0 0, .slice none 0 0, .slice none 0 0, .slice none 0 0] 30)).heap.size := by omega
  have hO1 := h0.wJ2 hx1 ho1 (Fsm.putL_all (P := GrpOk base w1) (fun y hy => ((h0.j.grp y hy).keep hx1 Apart.none)) (GrpOk.new (j := ⟨x0, x1, x2, x3, xg, x5, x6⟩) hg1 hnGl.out hnG hb0)) hb0
  have hs1 : Ext (fun b => b = w.heap.size) w1 (w1.setCell ⟨w.heap.size, 2, none⟩ (.slice A1 (Fsm.putL (fun x : JobV => x.1.id) (⟨x0, x1, x2, x3, xg, x5, x6⟩, .slice AG1 nG cG1) s.jobs).length c1)) := Ext.set1 _ _ _ _
  have hO2 : OwnS base (w1.setCell ⟨w.heap.size, 2, none⟩ (.slice A1 (Fsm.putL (fun x : JobV => x.1.id) (⟨x0, x1, x2, x3, xg, x5, x6⟩, .slice AG1 nG cG1) s.jobs).length c1)) (s.setJ A1 c1 (Fsm.putL (fun x : JobV => x.1.id) (⟨x0, x1, x2, x3, xg, x5, x6⟩, .slice AG1 nG cG1) s.jobs)) := hO1.keep hs1 (Apart.one hB1 (by decide))
  have hB2 : Blk (w1.setCell ⟨w.heap.size, 2, none⟩ (.slice A1 (Fsm.putL (fun x : JobV => x.1.id) (⟨x0, x1, x2, x3, xg, x5, x6⟩, .slice AG1 nG cG1) s.jobs).length c1)) w.heap.size 30 (s.setJ A1 c1 (Fsm.putL (fun x : JobV => x.1.id) (⟨x0, x1, x2, x3, xg, x5, x6⟩, .slice AG1 nG cG1) s.jobs)).arr := hB1.set_ 2 _
  have hJ2 : Blk (w1.setCell ⟨w.heap.size, 2, none⟩ (.slice A1 (Fsm.putL (fun x : JobV => x.1.id) (⟨x0, x1, x2, x3, xg, x5, x6⟩, .slice AG1 nG cG1) s.jobs).length c1)) (w.heap.size + 1) 39 _ := (hJ0.e0 hx1).ext hs1 (fun e => absurd (show w.heap.size + 1 = w.heap.size from e) (by omega))
  have hR2 : Blk (w1.setCell ⟨w.heap.size, 2, none⟩ (.slice A1 (Fsm.putL (fun x : JobV => x.1.id) (⟨x0, x1, x2, x3, xg, x5, x6⟩, .slice AG1 nG cG1) s.jobs).length c1)) (w.heap.size + 1 + 1) 30 _ := (hR0.e0 hx1).ext hs1 (fun e => absurd (show w.heap.size + 1 + 1 = w.heap.size from e) (by omega))
  have hx2 : Ext Nothing w (w1.setCell ⟨w.heap.size, 2, none⟩ (.slice A1 (Fsm.putL (fun x : JobV => x.1.id) (⟨x0, x1, x2, x3, xg, x5, x6⟩, .slice AG1 nG cG1) s.jobs).length c1)) := (hx0.tr hx1).trans hs1 (fun b hb e => absurd (show b = w.heap.size from e) (by omega))
  have HL1 := Lib.hid (Fsm.putL_len (key := fun x : JobV => x.1.id) (x := ((⟨x0, x1, x2, x3, xg, x5, x6⟩, .slice AG1 nG cG1) : JobV)) s.jobs)
  have hd1 := Lib.hid (putL_map (⟨x0, x1, x2, x3, xg, x5, x6⟩, .slice AG1 nG cG1) s.jobs)
  clear t1 q2 fr1 hO1 hs1 ho1 hg1
  generalize (w1.setCell ⟨w.heap.size, 2, none⟩ (.slice A1 (Fsm.putL (fun x : JobV => x.1.id) (⟨x0, x1, x2, x3, xg, x5, x6⟩, .slice AG1 nG cG1) s.jobs).length c1)) = w2 at hO2 hB2 hJ2 hR2 hx2 ⊢
  have t1 : w2.cell? ⟨w.heap.size + 1, 1, none⟩ = some (.int .i64 x1) := hJ2.cell 1
  have t0 : w2.cell? ⟨w.heap.size + 1, 0, none⟩ = some (.int .i64 x0) := hJ2.cell 0
  have hsd : Sl w2 4 s.AD s.nD (s.deploys.map DepD.cells) := hO2.slD
  have hdn : s.deploys.length < 67108862 := by omega
  have t5 : w2.cell? ⟨w.heap.size + 1, 5, none⟩ = some (.int .i64 x5) := hJ2.cell 5
  have c7 : w2.cell? ⟨w.heap.size, 7, none⟩ = some (.slice s.AD s.nD s.cD) := hB2.cell 7
  have c0 : w2.cell? ⟨w.heap.size, 0, none⟩ = some (.int .i64 s.index) := hB2.cell 0
  go_upto_region 4 with (first | go_skip | (go_at_call 79; (with_reducible refine (refDeploys s.AD s.nD s.cD s.deploys x0 x5 1 s.index w2 hsd hdn).mono ?_); rintro e w3 ⟨A3, c3, rfl, ho3, hx3⟩; have hB3 := hB2.e0 hx3; have q7 : w3.cell? ⟨w.heap.size, 7, none⟩ = some (.slice s.AD s.nD s.cD) := hB3.cell 7; have fr3 : w3.frozen? ⟨w.heap.size, 7, none⟩ = false := hB3.frozen 7))
  have hb2 : base ≤ w2.heap.size := by have := hx2.size; omega
  have hO3 := hO2.wD hx3 Apart.none (own_base ho3 hb2)
  have hs3 : Ext (fun b => b = w.heap.size) w3 (w3.setCell ⟨w.heap.size, 7, none⟩ (.slice A3 (Fsm.putL DepD.job ⟨x0, x5, 1, s.index⟩ s.deploys).length c3)) := Ext.set1 _ _ _ _
  have hO4 : OwnS base (w3.setCell ⟨w.heap.size, 7, none⟩ (.slice A3 (Fsm.putL DepD.job ⟨x0, x5, 1, s.index⟩ s.deploys).length c3)) ((s.setJ A1 c1 (Fsm.putL (fun x : JobV => x.1.id) (⟨x0, x1, x2, x3, xg, x5, x6⟩, .slice AG1 nG cG1) s.jobs)).setD A3 c3 (Fsm.putL DepD.job ⟨x0, x5, 1, s.index⟩ s.deploys)) := hO3.keep hs3 (Apart.one hB3 (by decide))
  have hB4 : Blk (w3.setCell ⟨w.heap.size, 7, none⟩ (.slice A3 (Fsm.putL DepD.job ⟨x0, x5, 1, s.index⟩ s.deploys).length c3)) w.heap.size 30 ((s.setJ A1 c1 (Fsm.putL (fun x : JobV => x.1.id) (⟨x0, x1, x2, x3, xg, x5, x6⟩, .slice AG1 nG cG1) s.jobs)).setD A3 c3 (Fsm.putL DepD.job ⟨x0, x5, 1, s.index⟩ s.deploys)).arr := hB3.set_ 7 _
  have hJ4 : Blk (w3.setCell ⟨w.heap.size, 7, none⟩ (.slice A3 (Fsm.putL DepD.job ⟨x0, x5, 1, s.index⟩ s.deploys).length c3)) (w.heap.size + 1) 39 _ := (hJ2.e0 hx3).ext hs3 (fun e => absurd (show w.heap.size + 1 = w.heap.size from e) (by omega))
  have hR4 : Blk (w3.setCell ⟨w.heap.size, 7, none⟩ (.slice A3 (Fsm.putL DepD.job ⟨x0, x5, 1, s.index⟩ s.deploys).length c3)) (w.heap.size + 1 + 1) 30 _ := (hR2.e0 hx3).ext hs3 (fun e => absurd (show w.heap.size + 1 + 1 = w.heap.size from e) (by omega))
  have hx4 : Ext Nothing w (w3.setCell ⟨w.heap.size, 7, none⟩ (.slice A3 (Fsm.putL DepD.job ⟨x0, x5, 1, s.index⟩ s.deploys).length c3)) := (hx2.tr hx3).trans hs3 (fun b hb e => absurd (show b = w.heap.size from e) (by omega))
  have HL3 := Lib.hid (Fsm.putL_len (key := DepD.job) (x := (⟨x0, x5, 1, s.index⟩ : DepD)) s.deploys)
  have hge : ∀ b, (vD ((s.setJ A1 c1 (Fsm.putL (fun x : JobV => x.1.id) (⟨x0, x1, x2, x3, xg, x5, x6⟩, .slice AG1 nG cG1) s.jobs)).setD A3 c3 (Fsm.putL DepD.job ⟨x0, x5, 1, s.index⟩ s.deploys))).ownBlock = some b → w2.heap.size ≤ b := fun b hb => own_ge ho3 hb
  have hw2 : w.heap.size + 1 + 1 < w2.heap.size := hR2.lt
  clear q7 fr3 c7 c0 t5 t0 t1 hO3 hs3
  generalize (w3.setCell ⟨w.heap.size, 7, none⟩ (.slice A3 (Fsm.putL DepD.job ⟨x0, x5, 1, s.index⟩ s.deploys).length c3)) = w4 at hO4 hB4 hJ4 hR4 hx4 ⊢
  have hb4 : base ≤ w4.heap.size := by have := hx4.size; omega
  have hJz : ((s.setJ A1 c1 (Fsm.putL (fun x : JobV => x.1.id) (⟨x0, x1, x2, x3, xg, x5, x6⟩, .slice AG1 nG cG1) s.jobs)).setD A3 c3 (Fsm.putL DepD.job ⟨x0, x5, 1, s.index⟩ s.deploys)).jobs.length ≤ 1048576 := by show (Fsm.putL (fun x : JobV => x.1.id) (⟨x0, x1, x2, x3, xg, x5, x6⟩, .slice AG1 nG cG1) s.jobs).length ≤ _; have := HL1.out; omega
  have hAz : ((s.setJ A1 c1 (Fsm.putL (fun x : JobV => x.1.id) (⟨x0, x1, x2, x3, xg, x5, x6⟩, .slice AG1 nG cG1) s.jobs)).setD A3 c3 (Fsm.putL DepD.job ⟨x0, x5, 1, s.index⟩ s.deploys)).allocs.length ≤ 1048576 := hA
  have hSz : ((s.setJ A1 c1 (Fsm.putL (fun x : JobV => x.1.id) (⟨x0, x1, x2, x3, xg, x5, x6⟩, .slice AG1 nG cG1) s.jobs)).setD A3 c3 (Fsm.putL DepD.job ⟨x0, x5, 1, s.index⟩ s.deploys)).stable.length ≤ 33554432 := hS
  have hDz : ((s.setJ A1 c1 (Fsm.putL (fun x : JobV => x.1.id) (⟨x0, x1, x2, x3, xg, x5, x6⟩, .slice AG1 nG cG1) s.jobs)).setD A3 c3 (Fsm.putL DepD.job ⟨x0, x5, 1, s.index⟩ s.deploys)).deploys.length ≤ 1048576 := by show (Fsm.putL DepD.job ⟨x0, x5, 1, s.index⟩ s.deploys).length ≤ _; have := HL3.out; omega
  go_upto_region 5 with (first | go_skip | ((with_reducible refine isW ?_); refine wpList_load_blk rfl 30 _ rfl STStore w.heap.size rfl ((s.setJ A1 c1 (Fsm.putL (fun x : JobV => x.1.id) (⟨x0, x1, x2, x3, xg, x5, x6⟩, .slice AG1 nG cG1) s.jobs)).setD A3 c3 (Fsm.putL DepD.job ⟨x0, x5, 1, s.index⟩ s.deploys)).arr hB4 rfl ?_) | (go_at_call 61; (with_reducible refine (refLooked base ((s.setJ A1 c1 (Fsm.putL (fun x : JobV => x.1.id) (⟨x0, x1, x2, x3, xg, x5, x6⟩, .slice AG1 nG cG1) s.jobs)).setD A3 c3 (Fsm.putL DepD.job ⟨x0, x5, 1, s.index⟩ s.deploys)) w4 hO4 hb4 hJz hAz hDz hSz).mono ?_); rintro e w5 ⟨s5, rfl, hO5, hd5, _, ⟨dL5, A5, n5, c5, l5, hl5, rfl⟩, hx5⟩; have hB5 := hB4.ext hx5 (fun e => by have := hge _ e; omega)) | ((with_reducible refine isW ?_); refine wpList_store_blk rfl 30 _ _ rfl STStore w.heap.size rfl (StoreV.arr { ((s.setJ A1 c1 (Fsm.putL (fun x : JobV => x.1.id) (⟨x0, x1, x2, x3, xg, x5, x6⟩, .slice AG1 nG cG1) s.jobs)).setD A3 c3 (Fsm.putL DepD.job ⟨x0, x5, 1, s.index⟩ s.deploys)) with deploys := dL5, AS := A5, nS := n5, cS := c5, stable := l5 }) rfl hB5 rfl rfl rfl ?_; intro w5' hB5' hx5'))
  have hJ5 := (hJ4.ext hx5 (fun e => by have := hge _ e; omega)).ext hx5' (fun e => absurd (show w.heap.size + 1 = w.heap.size from e) (by omega))
  have hR5 := (hR4.ext hx5 (fun e => by have := hge _ e; omega)).ext hx5' (fun e => absurd (show w.heap.size + 1 + 1 = w.heap.size from e) (by omega))
  have hO5' := hO5.keep hx5' (Apart.one hB5 (by decide))
  have hx5w : Ext Nothing w w5' := (hx4.trans hx5 (fun b hb e => by have := hge _ e; omega)).trans hx5' (fun b hb e => absurd (show b = w.heap.size from e) (by omega))
  have t0 : w5'.cell? ⟨w.heap.size + 1, 0, none⟩ = some (.int .i64 x0) := hJ5.cell 0
  have hb5 : base ≤ w5'.heap.size := by have := hx5w.size; omega
  have hJy : (StoreV.jobs { ((s.setJ A1 c1 (Fsm.putL (fun x : JobV => x.1.id) (⟨x0, x1, x2, x3, xg, x5, x6⟩, .slice AG1 nG cG1) s.jobs)).setD A3 c3 (Fsm.putL DepD.job ⟨x0, x5, 1, s.index⟩ s.deploys)) with deploys := dL5, AS := A5, nS := n5, cS := c5, stable := l5 }).length ≤ 67108864 := by show (Fsm.putL (fun x : JobV => x.1.id) (⟨x0, x1, x2, x3, xg, x5, x6⟩, .slice AG1 nG cG1) s.jobs).length ≤ _; have := HL1.out; omega
  have hEy : (StoreV.evals { ((s.setJ A1 c1 (Fsm.putL (fun x : JobV => x.1.id) (⟨x0, x1, x2, x3, xg, x5, x6⟩, .slice AG1 nG cG1) s.jobs)).setD A3 c3 (Fsm.putL DepD.job ⟨x0, x5, 1, s.index⟩ s.deploys)) with deploys := dL5, AS := A5, nS := n5, cS := c5, stable := l5 }).length < 67108862 := by show s.evals.length < _; omega
  go_wp2_with (first | go_skip | ((with_reducible refine isW ?_); refine wpList_load_blk rfl 30 _ rfl STStore w.heap.size rfl (StoreV.arr { ((s.setJ A1 c1 (Fsm.putL (fun x : JobV => x.1.id) (⟨x0, x1, x2, x3, xg, x5, x6⟩, .slice AG1 nG cG1) s.jobs)).setD A3 c3 (Fsm.putL DepD.job ⟨x0, x5, 1, s.index⟩ s.deploys)) with deploys := dL5, AS := A5, nS := n5, cS := c5, stable := l5 }) hB5' rfl ?_) | (go_at_call 54; (with_reducible refine (refEval base { ((s.setJ A1 c1 (Fsm.putL (fun x : JobV => x.1.id) (⟨x0, x1, x2, x3, xg, x5, x6⟩, .slice AG1 nG cG1) s.jobs)).setD A3 c3 (Fsm.putL DepD.job ⟨x0, x5, 1, s.index⟩ s.deploys)) with deploys := dL5, AS := A5, nS := n5, cS := c5, stable := l5 } x0 w5' hO5' hb5 hJy hEy).mono ?_); rintro e w6 ⟨s6, rfl, hO6, hd6, _, hx6⟩; have hR6 := hR5.e0 hx6) | ((with_reducible refine isW ?_); refine wpList_store_blk rfl 30 _ _ rfl STStore (w.heap.size + 1 + 1) rfl s6.arr rfl hR6 rfl rfl rfl ?_; intro w7 hR7 hx7))
  have hdd : s6.data = Fsm.begins s.data ⟨x0, x1, x2, x3, xg, x5, x6⟩ := by
   rw [HBG2.out, hd6, hd5]
   exact congrArg (fun z => Fsm.eval (Fsm.looked ({ ({ s.data with jobs := z } : StoreD) with deploys := Fsm.putL DepD.job ⟨x0, x5, 1, s.index⟩ s.data.deploys } : StoreD)) x0) hd1.out
  exact bodyPost_ret (results_cell rfl STStore (g := w.heap.size + 1 + 1) rfl hR7 rfl) rfl ⟨s6, rfl, hO6.keep hx7 (Apart.one hR6 (by decide)), hdd, (hx5w.tr hx6).trans hx7 (fun b hb e => absurd (show b = w.heap.size + 1 + 1 from e) (by omega))⟩
end Go.Proofs.YtlpfcmnnmdhaoaaGreat
