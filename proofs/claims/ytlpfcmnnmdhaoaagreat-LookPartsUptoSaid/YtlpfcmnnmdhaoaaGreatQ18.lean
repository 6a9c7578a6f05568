/- Parts of the proof: RefSubmit -/
import Derived.Test.YtlpfcmnnmdhaoaaGreatQ17
import Derived.Test.YtlpfcmnnmdhaoaaGreatQ14
namespace Go.Proofs.YtlpfcmnnmdhaoaaGreat
set_option linter.unusedVariables false
set_option linter.unusedSimpArgs false
set_option linter.unusedSectionVars false
open Go.RowKit
set_option maxRecDepth 20000 in
set_option maxHeartbeats 8000000 in
theorem refSubmit (base : Nat) (s : StoreV) (c : CmdV) (w : World) (h : OwnS base w s) (hc : CmdI base w c) (hb : base ≤ w.heap.size) (hJ : s.jobs.length ≤ 1048575) (hA : s.allocs.length ≤ 1048576) (hDl : s.deploys.length ≤ 1048575) (hS : s.stable.length ≤ 33554432) (hE : s.evals.length ≤ 33554432) :
  Calls Tryz.prog 28 #[.agg s.arr, .agg c.arr] w fun e w' => ∃ s' r, e = .returned (.tuple #[.agg s'.arr, .agg (resArr r.code r.value)]) ∧ OwnS base w' s' ∧ Fsm.submit s.data c.d = (s'.data, r) ∧ r.allocs = [] ∧ Ext (RowB base w) w w' := by
 obtain ⟨hxW, hBW, hCW, hRW, hEW⟩ := enterW w s.arr c.arr #[.int .i64 0, .int .i64 0, .slice none 0 0, .slice none 0 0, .slice none 0 0, .slice none 0 0, .slice none 0 0, .slice none 0 0, .slice none 0 0] #[.int .i64 0, .int .i64 0, .slice none 0 0]
 have hsj := h.slJ
 have hjl := Lib.hid h.jl
 have hnJ : s.nJ ≤ 67108864 := by have := h.jl; omega
 have hcj0 : ∀ j u, c.jarr.toList[j]? = some u → c.arr[3 + j]? = some u := fun j u hu => by
  match j, hu with
  | 0, hu => exact hu
  | 1, hu => exact hu
  | 2, hu => exact hu
  | 3, hu => exact hu
  | 4, hu => exact hu
  | 5, hu => exact hu
  | 6, hu => exact hu
  | (n + 7), hu => simp at hu
 cases hok : Fsm.jobOk c.job with
 | false =>
  have HF := Lib.hid (show Fsm.submit s.data c.d = (s.data, ⟨30, 0, []⟩) by unfold Fsm.submit; rw [show Fsm.jobOk c.d.job = false from hok]; rfl)
  have HER := Lib.hid (show jobErr ⟨c.job.id, c.job.ty, c.job.prio, c.job.par, c.job.groups, c.job.ver, c.job.stopped⟩ = 30 from jobErr_no hok)
  clear hok
  go_enter Tryz.func28, Tryz.ntmps28
  go_upto_region 1 with fail
  generalize ((((w.alloc (.cells s.arr 30)).alloc (.cells c.arr 51)).alloc (.cells #[.int .i64 0, .int .i64 0, .slice none 0 0, .slice none 0 0, .slice none 0 0, .slice none 0 0, .slice none 0 0, .slice none 0 0, .slice none 0 0] 30)).alloc (.cells #[.int .i64 0, .int .i64 0, .slice none 0 0] 34)) = W at hxW hBW hCW hRW hEW ⊢
  have hzW : w.heap.size + 1 + 1 + 1 < W.heap.size := hEW.lt
  have hg0 := hc.g.ext0 hxW
  have hcj : ∀ j u, c.jarr.toList[j]? = some u → W.cell? ⟨w.heap.size + 1, 3 + j, none⟩ = some u := fun j u hu => by rw [hCW.cell]; exact hcj0 j u hu
  go_upto_region 3 with (first | go_skip | ((with_reducible refine isW ?_); refine wpList_load_at rfl 39 _ rfl STJob (w.heap.size + 1) 3 rfl c.jarr (by first | exact hcj1 | exact hcj) rfl ?_) | (go_at_call 50; (with_reducible refine (ref06Job c.job.id c.job.ty c.job.prio c.job.par c.job.groups c.job.ver c.job.stopped c.GA c.gn c.gc W hg0).mono ?_); rintro e w1 ⟨rfl, hx1⟩; rw [HER.out]; have hcj1 : ∀ j u, c.jarr.toList[j]? = some u → w1.cell? ⟨w.heap.size + 1, 3 + j, none⟩ = some u := fun j u hu => hx1.cell (hcj j u hu) (fun e => e)))
  have hBa := hBW.e0 hx1
  have hRa := hRW.e0 hx1
  have hEa := hEW.e0 hx1
  refine zH (S := fun q => q = (w.heap.size + 1 + 1) ∨ q = (w.heap.size + 1 + 1 + 1)) (by kernel_rfl) (fun Wd hd hd0 => ?_)
  refine zT 0 (.agg s.arr) rfl (by kernel_rfl) (by rfl) hd (fun _ _ _ h => h) ?_ ?_
  ·intro W' hS'
   exact run_load_blk rfl STStore (by go_simp) (hBa.ext hS' (by omega)) rfl
  refine zT 1 (.int .i64 30) rfl (by kernel_rfl) (by rfl) hd (fun _ _ _ h => h) ?_ ?_
  ·intro W' hS'
   go_simp
  simp only [Act.put, zA, zB, zC, zD, zE, zF]
  refine zO 2 (by kernel_rfl) ?_
  refine wpOp_call (f := 16) (args := #[.int .i64 30]) rfl (by rfl) (by go_simp) ((refNo 30 Wd).mono ?_)
  rintro e wn ⟨rfl, hxn⟩
  have hd1 := hd.trans hxn (fun _ _ e => e.elim)
  have hd01 := hd0.tr hxn
  refine ⟨_, rfl, hd1, ?_⟩
  simp only [Act.put, zA, zB, zC, zD, zE, zF]
  refine zO 3 (by kernel_rfl) ?_
  refine wpOp_store (p := (w.heap.size + 1 + 1)) (cs := s.arr) rfl (by rfl) rfl (by go_simp) (by go_simp) (hRa.e0 hd01) rfl STStore rfl rfl (fun w2 hR2 hx2 => ?_)
  have hd2 := hd1.trans hx2 (fun q hq e => .inl e)
  refine ⟨hd2, ?_⟩
  simp only [Act.put, zA, zB, zC, zD, zE, zF]
  refine zO 4 (by kernel_rfl) ?_
  refine wpOp_store (p := (w.heap.size + 1 + 1 + 1)) (cs := resArr 30 0) rfl (by rfl) rfl (by go_simp) (by go_simp) ((hEa.e0 hd01).ext hx2 (fun e => absurd (show (w.heap.size + 1 + 1 + 1) = (w.heap.size + 1 + 1) from e) (by omega))) rfl STResult rfl rfl (fun w3 hE3 hx3' => ?_)
  have hx3 := hd2.trans hx3' (fun q hq e => .inr e)
  have hR3 := hR2.ext hx3' (fun e => absurd (show (w.heap.size + 1 + 1) = (w.heap.size + 1 + 1 + 1) from e) (by omega))
  refine ⟨hx3, wpAnyH_done (by kernel_rfl) ?_ _⟩
  simp only [Act.put, zA, zB, zC, zD, zE, zF]
  go_wp2
  have hxx : Ext Nothing w w3 := (hxW.tr hx1).trans hx3 (fun b hb e => by omega)
  exact bodyPost_ret (results_cell2 rfl STStore STResult rfl rfl hR3 rfl hE3 rfl) rfl ⟨s, ⟨30, 0, []⟩, rfl, h.keep0 hxx, HF.out, rfl, hxx.mono (fun _ _ e => e.elim)⟩
 | true =>
  have HER := Lib.hid (show jobErr ⟨c.job.id, c.job.ty, c.job.prio, c.job.par, c.job.groups, c.job.ver, c.job.stopped⟩ = 0 from jobErr_ok hok)
  have HOK := Lib.hid hok
  clear hok
  go_enter Tryz.func28, Tryz.ntmps28
  go_upto_region 1 with fail
  generalize ((((w.alloc (.cells s.arr 30)).alloc (.cells c.arr 51)).alloc (.cells #[.int .i64 0, .int .i64 0, .slice none 0 0, .slice none 0 0, .slice none 0 0, .slice none 0 0, .slice none 0 0, .slice none 0 0, .slice none 0 0] 30)).alloc (.cells #[.int .i64 0, .int .i64 0, .slice none 0 0] 34)) = W at hxW hBW hCW hRW hEW ⊢
  have hzW : w.heap.size + 1 + 1 + 1 < W.heap.size := hEW.lt
  have hg0 := hc.g.ext0 hxW
  have hcj : ∀ j u, c.jarr.toList[j]? = some u → W.cell? ⟨w.heap.size + 1, 3 + j, none⟩ = some u := fun j u hu => by rw [hCW.cell]; exact hcj0 j u hu
  go_upto_region 7 with (first | go_skip | ((with_reducible refine isW ?_); refine wpList_load_at rfl 39 _ rfl STJob (w.heap.size + 1) 3 rfl c.jarr (by first | exact hcj1 | exact hcj) rfl ?_) | (go_at_call 50; (with_reducible refine (ref06Job c.job.id c.job.ty c.job.prio c.job.par c.job.groups c.job.ver c.job.stopped c.GA c.gn c.gc W hg0).mono ?_); rintro e w1 ⟨rfl, hx1⟩; rw [HER.out]; have hcj1 : ∀ j u, c.jarr.toList[j]? = some u → w1.cell? ⟨w.heap.size + 1, 3 + j, none⟩ = some u := fun j u hu => hx1.cell (hcj j u hu) (fun e => e)))
  have hJj : Blk (w1.alloc (.cells #[.int .i64 c.job.id, .int .i64 c.job.ty, .int .i64 c.job.prio, .int .i64 c.job.par, .slice c.GA c.gn c.gc, .int .i64 1, .bool false] 39)) w1.heap.size 39 #[.int .i64 c.job.id, .int .i64 c.job.ty, .int .i64 c.job.prio, .int .i64 c.job.par, .slice c.GA c.gn c.gc, .int .i64 1, .bool false] := Blk.new _ _ _
  have hxj1 : Ext Nothing w1 (w1.alloc (.cells #[.int .i64 c.job.id, .int .i64 c.job.ty, .int .i64 c.job.prio, .int .i64 c.job.par, .slice c.GA c.gn c.gc, .int .i64 1, .bool false] 39)) := Ext.auto
  have hxj : Ext Nothing w (w1.alloc (.cells #[.int .i64 c.job.id, .int .i64 c.job.ty, .int .i64 c.job.prio, .int .i64 c.job.par, .slice c.GA c.gn c.gc, .int .i64 1, .bool false] 39)) := (hxW.tr hx1).tr hxj1
  have hBj := (hBW.e0 hx1).e0 hxj1
  have hRj := (hRW.e0 hx1).e0 hxj1
  have hEj := (hEW.e0 hx1).e0 hxj1
  have hz1 : w.heap.size + 1 + 1 + 1 < w1.heap.size := (hEW.e0 hx1).lt
  clear hcj1 hcj
  generalize w1.heap.size = J at hJj hz1 ⊢
  generalize (w1.alloc (.cells #[.int .i64 c.job.id, .int .i64 c.job.ty, .int .i64 c.job.prio, .int .i64 c.job.par, .slice c.GA c.gn c.gc, .int .i64 1, .bool false] 39)) = wj at hJj hxj hBj hRj hEj ⊢
  have j0 : wj.cell? ⟨J, 0, none⟩ = some (.int .i64 c.job.id) := hJj.cell 0
  rcases idx_cases (fun x : JobV => x.1.id == c.job.id) s.jobs with ⟨hi, hf, _⟩ | ⟨i, x, hi, hxi, hp, hf, _⟩
  ·have hn := jobAt_none hf
   have HI := Lib.hid hi
   by_cases h6 : 6 ≤ s.nJ
   ·have HF := Lib.hid (show Fsm.submit s.data c.d = (s.data, ⟨2, 0, []⟩) by
     unfold Fsm.submit; rw [show Fsm.jobOk c.d.job = true from HOK.out, show Fsm.jobAt s.data c.d.job.id = none from hn]
     simp only []
     rw [if_pos (show 6 ≤ s.data.jobs.length by show 6 ≤ (s.jobs.map (·.1)).length; rw [List.length_map]; have := hjl.out; omega)]; rfl)
    have h6' : decide ((6 : Int) ≤ (s.nJ : Int)) = true := by simp; omega
    clear hi hf hn
    go_upto_region 13 with (first | go_skip | ((with_reducible refine isW ?_); refine wpList_load_blk rfl 30 _ rfl STStore w.heap.size rfl s.arr (show Blk _ _ 30 _ from hBj) rfl ?_) | (go_at_call 51; (with_reducible refine (refAtJob s.AJ s.nJ s.cJ s.jobs c.job.id wj (hsj.ext0 hxj) hnJ _ _ _ _ _ _ _ _).mono ?_); rintro e w4 ⟨rfl, hx4⟩; rw [HI.out]; have c2 : w4.cell? ⟨w.heap.size, 2, none⟩ = some (.slice s.AJ s.nJ s.cJ) := (hBj.e0 hx4).cell 2))
    have hBa := hBj.e0 hx4
    have hRa := hRj.e0 hx4
    have hEa := hEj.e0 hx4
    have hxa := hxj.tr hx4
    refine zH (S := fun q => q = (w.heap.size + 1 + 1) ∨ q = (w.heap.size + 1 + 1 + 1)) (by kernel_rfl) (fun Wd hd hd0 => ?_)
    refine zT 0 (.agg s.arr) rfl (by kernel_rfl) (by rfl) hd (fun _ _ _ h => h) ?_ ?_
    ·intro W' hS'
     exact run_load_blk rfl STStore (by go_simp) (hBa.ext hS' (by omega)) rfl
    simp only [Act.put, zA, zB, zC, zD, zE, zF]
    refine zO 1 (by kernel_rfl) ?_
    refine wpOp_call (f := 16) (args := #[.int .i64 2]) rfl (by rfl) (by go_simp) ((refNo 2 Wd).mono ?_)
    rintro e wn ⟨rfl, hxn⟩
    have hd1 := hd.trans hxn (fun _ _ e => e.elim)
    have hd01 := hd0.tr hxn
    refine ⟨_, rfl, hd1, ?_⟩
    simp only [Act.put, zA, zB, zC, zD, zE, zF]
    refine zO 2 (by kernel_rfl) ?_
    refine wpOp_store (p := (w.heap.size + 1 + 1)) (cs := s.arr) rfl (by rfl) rfl (by go_simp) (by go_simp) (hRa.e0 hd01) rfl STStore rfl rfl (fun w2 hR2 hx2 => ?_)
    have hd2 := hd1.trans hx2 (fun q hq e => .inl e)
    refine ⟨hd2, ?_⟩
    simp only [Act.put, zA, zB, zC, zD, zE, zF]
    refine zO 3 (by kernel_rfl) ?_
    refine wpOp_store (p := (w.heap.size + 1 + 1 + 1)) (cs := resArr 2 0) rfl (by rfl) rfl (by go_simp) (by go_simp) ((hEa.e0 hd01).ext hx2 (fun e => absurd (show (w.heap.size + 1 + 1 + 1) = (w.heap.size + 1 + 1) from e) (by omega))) rfl STResult rfl rfl (fun w3 hE3 hx3' => ?_)
    have hx3 := hd2.trans hx3' (fun q hq e => .inr e)
    have hR3 := hR2.ext hx3' (fun e => absurd (show (w.heap.size + 1 + 1) = (w.heap.size + 1 + 1 + 1) from e) (by omega))
    refine ⟨hx3, wpAnyH_done (by kernel_rfl) ?_ _⟩
    simp only [Act.put, zA, zB, zC, zD, zE, zF]
    go_wp2
    have hxx : Ext Nothing w w3 := hxa.trans hx3 (fun b hb e => by omega)
    exact bodyPost_ret (results_cell2 rfl STStore STResult rfl rfl hR3 rfl hE3 rfl) rfl ⟨s, ⟨2, 0, []⟩, rfl, h.keep0 hxx, HF.out, rfl, hxx.mono (fun _ _ e => e.elim)⟩
   ·have HF := Lib.hid (show Fsm.submit s.data c.d = (Fsm.begins s.data ⟨c.job.id, c.job.ty, c.job.prio, c.job.par, c.job.groups, 1, false⟩, ⟨0, 1, []⟩) by
     unfold Fsm.submit; rw [show Fsm.jobOk c.d.job = true from HOK.out, show Fsm.jobAt s.data c.d.job.id = none from hn]
     simp only []
     rw [if_neg (show ¬ 6 ≤ s.data.jobs.length by show ¬ 6 ≤ (s.jobs.map (·.1)).length; rw [List.length_map]; have := hjl.out; omega)]; rfl)
    have h6' : decide ((6 : Int) ≤ (s.nJ : Int)) = false := by simp; omega
    clear hi hf hn
    go_upto_region 14 with (first | go_skip | ((with_reducible refine isW ?_); refine wpList_load_blk rfl 30 _ rfl STStore w.heap.size rfl s.arr (show Blk _ _ 30 _ from hBj) rfl ?_) | (go_at_call 51; (with_reducible refine (refAtJob s.AJ s.nJ s.cJ s.jobs c.job.id wj (hsj.ext0 hxj) hnJ _ _ _ _ _ _ _ _).mono ?_); rintro e w4 ⟨rfl, hx4⟩; rw [HI.out]; have c2 : w4.cell? ⟨w.heap.size, 2, none⟩ = some (.slice s.AJ s.nJ s.cJ) := (hBj.e0 hx4).cell 2))
    have hBa := hBj.e0 hx4
    have hJa := hJj.e0 hx4
    have hRa := hRj.e0 hx4
    have hEa := hEj.e0 hx4
    have hxa := hxj.tr hx4
    refine zH (S := fun q => q = (w.heap.size + 1 + 1) ∨ q = (w.heap.size + 1 + 1 + 1)) (by kernel_rfl) (fun Wd hd hd0 => ?_)
    refine zT 0 (.agg s.arr) rfl (by kernel_rfl) (by rfl) hd (fun _ _ _ h => h) ?_ ?_
    ·intro W' hS'
     exact run_load_blk rfl STStore (by go_simp) (hBa.ext hS' (by omega)) rfl
    refine zT 1 (.agg #[.int .i64 c.job.id, .int .i64 c.job.ty, .int .i64 c.job.prio, .int .i64 c.job.par, .slice c.GA c.gn c.gc, .int .i64 1, .bool false]) rfl (by kernel_rfl) (by rfl) hd (fun _ _ _ h => h) ?_ ?_
    ·intro W' hS'
     exact run_load_blk rfl STJob (by go_simp) (hJa.ext hS' (by omega)) rfl
    refine zT 3 (.pointer (some ⟨J, 5, none⟩)) rfl (by kernel_rfl) (by rfl) hd (fun _ _ _ h => h) ?_ ?_
    ·intro W' hS'
     go_simp
    refine zT 4 (.int .i64 1) rfl (by kernel_rfl) (by rfl) hd (fun _ _ _ h => h) ?_ ?_
    ·intro W' hS'
     have q5 : W'.cell? ⟨J, 5, none⟩ = some (.int .i64 1) := (hJa.ext hS' (by omega)).cell 5
     go_simp
    refine zT 5 (.agg (resArr 0 1)) rfl (by kernel_rfl) (by rfl) hd (fun _ _ _ h => h) ?_ ?_
    ·intro W' hS'
     go_simp
    simp only [Act.put, zA, zB, zC, zD, zE, zF]
    have hxd := hxa.tr hd0
    have hbd : base ≤ Wd.heap.size := by have := hxd.size; omega
    refine zO 2 (by kernel_rfl) ?_
    refine wpOp_call (f := 52) (args := #[.agg s.arr, .agg #[.int .i64 c.job.id, .int .i64 c.job.ty, .int .i64 c.job.prio, .int .i64 c.job.par, .slice c.GA c.gn c.gc, .int .i64 1, .bool false]]) rfl (by rfl) (by go_simp) ((refBegins base s c.job.id c.job.ty c.job.prio c.job.par c.job.groups 1 false c.GA c.gn c.gc Wd (h.keep0 hxd) hbd hJ hA hDl hS hE (hc.g.ext0 hxd) hc.gl).mono ?_)
    rintro e wb ⟨s6, rfl, hO6, hd6, hxb⟩
    have hd1 := hd.trans hxb (fun _ _ e => e.elim)
    have hd01 := hd0.tr hxb
    refine ⟨_, rfl, hd1, ?_⟩
    simp only [Act.put, zA, zB, zC, zD, zE, zF]
    refine zO 6 (by kernel_rfl) ?_
    refine wpOp_store (p := (w.heap.size + 1 + 1)) (cs := s6.arr) rfl (by rfl) rfl (by go_simp) (by go_simp) (hRa.e0 hd01) rfl STStore rfl rfl (fun w2 hR2 hx2 => ?_)
    have hd2 := hd1.trans hx2 (fun q hq e => .inl e)
    refine ⟨hd2, ?_⟩
    simp only [Act.put, zA, zB, zC, zD, zE, zF]
    refine zO 7 (by kernel_rfl) ?_
    refine wpOp_store (p := (w.heap.size + 1 + 1 + 1)) (cs := resArr 0 1) rfl (by rfl) rfl (by go_simp) (by go_simp) ((hEa.e0 hd01).ext hx2 (fun e => absurd (show (w.heap.size + 1 + 1 + 1) = (w.heap.size + 1 + 1) from e) (by omega))) rfl STResult rfl rfl (fun w3 hE3 hx3' => ?_)
    have hx3 := hd2.trans hx3' (fun q hq e => .inr e)
    have hR3 := hR2.ext hx3' (fun e => absurd (show (w.heap.size + 1 + 1) = (w.heap.size + 1 + 1 + 1) from e) (by omega))
    refine ⟨hx3, wpAnyH_done (by kernel_rfl) ?_ _⟩
    simp only [Act.put, zA, zB, zC, zD, zE, zF]
    go_wp2
    have hO8 := (hO6.keep hx2 (Apart.one (hRa.e0 hd01) (by decide))).keep hx3' (Apart.one ((hEa.e0 hd01).ext hx2 (fun e => absurd (show (w.heap.size + 1 + 1 + 1) = (w.heap.size + 1 + 1) from e) (by omega))) (by decide))
    have hxx : Ext Nothing w w3 := hxa.trans hx3 (fun b hb e => by omega)
    exact bodyPost_ret (results_cell2 rfl STStore STResult rfl rfl hR3 rfl hE3 rfl) rfl ⟨s6, ⟨0, 1, []⟩, rfl, hO8, by rw [HF.out, hd6], rfl, hxx.mono (fun _ _ e => e.elim)⟩
  ·have hja : Fsm.jobAt s.data c.d.job.id = some x.1 := jobAt_data hf
   obtain ⟨hi1, hi2⟩ := List.getElem?_eq_some_iff.1 hxi
   obtain ⟨_, b, off, hAe, hce⟩ := (h.keep0 hxj).slJ.get (Ext.refl Nothing wj) (k := i) (by have := hjl.out; omega)
   rw [hi2] at hce
   have hk0 : (0 : Int) ≤ (i : Int) := by omega
   have hk1 : (i : Int) < s.nJ := by have := hjl.out; omega
   have hkg : decide ((0 : Int) ≤ (i : Int)) = true := by simp
   obtain ⟨⟨x0, x1, x2, x3, xg, x5, x6⟩, xv⟩ := x
   have HI := Lib.hid hi
   have HA := Lib.hid hAe
   have HJA := Lib.hid hja
   clear hi hf hi2 hAe hxi hp hja
   have more : True := trivial
   cases h1 : (x1 != c.job.ty) with
   | true =>
    have HF := Lib.hid (show Fsm.submit s.data c.d = (s.data, ⟨30, 0, []⟩) by
     unfold Fsm.submit; rw [show Fsm.jobOk c.d.job = true from HOK.out, HJA.out]
     simp only []
     rw [if_pos (show ((!(x1 == c.d.job.ty)) || decide (Fsm.big40 ≤ x5)) = true from by rw [show (!(x1 == c.d.job.ty)) = true from h1]; rfl)]; rfl)
    go_upto_region 9 with (first | go_skip | ((with_reducible refine isW ?_); refine wpList_load_blk rfl 30 _ rfl STStore w.heap.size rfl s.arr (show Blk _ _ 30 _ from hBj) rfl ?_) | (go_at_call 51; (with_reducible refine (refAtJob s.AJ s.nJ s.cJ s.jobs c.job.id wj (hsj.ext0 hxj) hnJ _ _ _ _ _ _ _ _).mono ?_); rintro e w4 ⟨rfl, hx4⟩; rw [HI.out]; have c2 : w4.cell? ⟨w.heap.size, 2, none⟩ = some (.slice (some ⟨b, off, none⟩) s.nJ s.cJ) := (by rw [← HA.out]; exact (hBj.e0 hx4).cell 2); have k1 : w4.cell? ⟨b, off + i * 7 + 1, none⟩ = some (.int .i64 x1) := hx4.cell (hce 1 _ rfl) (fun e => e); have k5 : w4.cell? ⟨b, off + i * 7 + 5, none⟩ = some (.int .i64 x5) := hx4.cell (hce 5 _ rfl) (fun e => e); have j1 : w4.cell? ⟨J, 1, none⟩ = some (.int .i64 c.job.ty) := (hJj.e0 hx4).cell 1))
    go_quiet (fail)
    have hdq := (Ext.refl Nothing w4).drewN nq
    generalize w4.drewN nq = wq at hdq ⊢
    have hx4q := hx4.tr hdq
    have hBa := hBj.e0 hx4q
    have hJa := hJj.e0 hx4q
    have hRa := hRj.e0 hx4q
    have hEa := hEj.e0 hx4q
    have hxa := hxj.tr hx4q
    go_upto_region 10 with fail
    refine zH (S := fun q => q = (w.heap.size + 1 + 1) ∨ q = (w.heap.size + 1 + 1 + 1)) (by kernel_rfl) (fun Wd hd hd0 => ?_)
    refine zT 0 (.agg s.arr) rfl (by kernel_rfl) (by rfl) hd (fun _ _ _ h => h) ?_ ?_
    ·intro W' hS'
     exact run_load_blk rfl STStore (by go_simp) (hBa.ext hS' (by omega)) rfl
    simp only [Act.put, zA, zB, zC, zD, zE, zF]
    refine zO 1 (by kernel_rfl) ?_
    refine wpOp_call (f := 16) (args := #[.int .i64 30]) rfl (by rfl) (by go_simp) ((refNo 30 Wd).mono ?_)
    rintro e wn ⟨rfl, hxn⟩
    have hd1 := hd.trans hxn (fun _ _ e => e.elim)
    have hd01 := hd0.tr hxn
    refine ⟨_, rfl, hd1, ?_⟩
    simp only [Act.put, zA, zB, zC, zD, zE, zF]
    refine zO 2 (by kernel_rfl) ?_
    refine wpOp_store (p := (w.heap.size + 1 + 1)) (cs := s.arr) rfl (by rfl) rfl (by go_simp) (by go_simp) (hRa.e0 hd01) rfl STStore rfl rfl (fun w2 hR2 hx2 => ?_)
    have hd2 := hd1.trans hx2 (fun q hq e => .inl e)
    refine ⟨hd2, ?_⟩
    simp only [Act.put, zA, zB, zC, zD, zE, zF]
    refine zO 3 (by kernel_rfl) ?_
    refine wpOp_store (p := (w.heap.size + 1 + 1 + 1)) (cs := resArr 30 0) rfl (by rfl) rfl (by go_simp) (by go_simp) ((hEa.e0 hd01).ext hx2 (fun e => absurd (show (w.heap.size + 1 + 1 + 1) = (w.heap.size + 1 + 1) from e) (by omega))) rfl STResult rfl rfl (fun w3 hE3 hx3' => ?_)
    have hx3 := hd2.trans hx3' (fun q hq e => .inr e)
    have hR3 := hR2.ext hx3' (fun e => absurd (show (w.heap.size + 1 + 1) = (w.heap.size + 1 + 1 + 1) from e) (by omega))
    refine ⟨hx3, wpAnyH_done (by kernel_rfl) ?_ _⟩
    simp only [Act.put, zA, zB, zC, zD, zE, zF]
    go_wp2
    have hxx : Ext Nothing w w3 := hxa.trans hx3 (fun b hb e => by omega)
    exact bodyPost_ret (results_cell2 rfl STStore STResult rfl rfl hR3 rfl hE3 rfl) rfl ⟨s, ⟨30, 0, []⟩, rfl, h.keep0 hxx, HF.out, rfl, hxx.mono (fun _ _ e => e.elim)⟩
   | false =>
    by_cases h5 : 1099511627776 ≤ x5
    ·have h5' : decide (1099511627776 ≤ x5) = true := by simpa using h5
     have HF := Lib.hid (show Fsm.submit s.data c.d = (s.data, ⟨30, 0, []⟩) by
      unfold Fsm.submit; rw [show Fsm.jobOk c.d.job = true from HOK.out, HJA.out]
      simp only []
      rw [if_pos (show ((!(x1 == c.d.job.ty)) || decide (Fsm.big40 ≤ x5)) = true from by rw [show decide (Fsm.big40 ≤ x5) = true from h5']; simp)]; rfl)
     go_upto_region 9 with (first | go_skip | ((with_reducible refine isW ?_); refine wpList_load_blk rfl 30 _ rfl STStore w.heap.size rfl s.arr (show Blk _ _ 30 _ from hBj) rfl ?_) | (go_at_call 51; (with_reducible refine (refAtJob s.AJ s.nJ s.cJ s.jobs c.job.id wj (hsj.ext0 hxj) hnJ _ _ _ _ _ _ _ _).mono ?_); rintro e w4 ⟨rfl, hx4⟩; rw [HI.out]; have c2 : w4.cell? ⟨w.heap.size, 2, none⟩ = some (.slice (some ⟨b, off, none⟩) s.nJ s.cJ) := (by rw [← HA.out]; exact (hBj.e0 hx4).cell 2); have k1 : w4.cell? ⟨b, off + i * 7 + 1, none⟩ = some (.int .i64 x1) := hx4.cell (hce 1 _ rfl) (fun e => e); have k5 : w4.cell? ⟨b, off + i * 7 + 5, none⟩ = some (.int .i64 x5) := hx4.cell (hce 5 _ rfl) (fun e => e); have j1 : w4.cell? ⟨J, 1, none⟩ = some (.int .i64 c.job.ty) := (hJj.e0 hx4).cell 1))
     go_quiet (fail)
     have hdq := (Ext.refl Nothing w4).drewN nq
     generalize w4.drewN nq = wq at hdq ⊢
     have hx4q := hx4.tr hdq
     have hBa := hBj.e0 hx4q
     have hJa := hJj.e0 hx4q
     have hRa := hRj.e0 hx4q
     have hEa := hEj.e0 hx4q
     have hxa := hxj.tr hx4q
     go_upto_region 10 with fail
     refine zH (S := fun q => q = (w.heap.size + 1 + 1) ∨ q = (w.heap.size + 1 + 1 + 1)) (by kernel_rfl) (fun Wd hd hd0 => ?_)
     refine zT 0 (.agg s.arr) rfl (by kernel_rfl) (by rfl) hd (fun _ _ _ h => h) ?_ ?_
     ·intro W' hS'
      exact run_load_blk rfl STStore (by go_simp) (hBa.ext hS' (by omega)) rfl
     simp only [Act.put, zA, zB, zC, zD, zE, zF]
     refine zO 1 (by kernel_rfl) ?_
     refine wpOp_call (f := 16) (args := #[.int .i64 30]) rfl (by rfl) (by go_simp) ((refNo 30 Wd).mono ?_)
     rintro e wn ⟨rfl, hxn⟩
     have hd1 := hd.trans hxn (fun _ _ e => e.elim)
     have hd01 := hd0.tr hxn
     refine ⟨_, rfl, hd1, ?_⟩
     simp only [Act.put, zA, zB, zC, zD, zE, zF]
     refine zO 2 (by kernel_rfl) ?_
     refine wpOp_store (p := (w.heap.size + 1 + 1)) (cs := s.arr) rfl (by rfl) rfl (by go_simp) (by go_simp) (hRa.e0 hd01) rfl STStore rfl rfl (fun w2 hR2 hx2 => ?_)
     have hd2 := hd1.trans hx2 (fun q hq e => .inl e)
     refine ⟨hd2, ?_⟩
     simp only [Act.put, zA, zB, zC, zD, zE, zF]
     refine zO 3 (by kernel_rfl) ?_
     refine wpOp_store (p := (w.heap.size + 1 + 1 + 1)) (cs := resArr 30 0) rfl (by rfl) rfl (by go_simp) (by go_simp) ((hEa.e0 hd01).ext hx2 (fun e => absurd (show (w.heap.size + 1 + 1 + 1) = (w.heap.size + 1 + 1) from e) (by omega))) rfl STResult rfl rfl (fun w3 hE3 hx3' => ?_)
     have hx3 := hd2.trans hx3' (fun q hq e => .inr e)
     have hR3 := hR2.ext hx3' (fun e => absurd (show (w.heap.size + 1 + 1) = (w.heap.size + 1 + 1 + 1) from e) (by omega))
     refine ⟨hx3, wpAnyH_done (by kernel_rfl) ?_ _⟩
     simp only [Act.put, zA, zB, zC, zD, zE, zF]
     go_wp2
     have hxx : Ext Nothing w w3 := hxa.trans hx3 (fun b hb e => by omega)
     exact bodyPost_ret (results_cell2 rfl STStore STResult rfl rfl hR3 rfl hE3 rfl) rfl ⟨s, ⟨30, 0, []⟩, rfl, h.keep0 hxx, HF.out, rfl, hxx.mono (fun _ _ e => e.elim)⟩
    ·have h5' : decide (1099511627776 ≤ x5) = false := by simpa using h5
     have HF := Lib.hid (show Fsm.submit s.data c.d = (Fsm.begins s.data ⟨c.job.id, c.job.ty, c.job.prio, c.job.par, c.job.groups, wrap64 (x5 + 1), false⟩, ⟨0, wrap64 (x5 + 1), []⟩) by
      unfold Fsm.submit; rw [show Fsm.jobOk c.d.job = true from HOK.out, HJA.out]
      simp only []
      rw [if_neg (show ¬ ((!(x1 == c.d.job.ty)) || decide (Fsm.big40 ≤ x5)) = true from by rw [show (!(x1 == c.d.job.ty)) = false from h1, show decide (Fsm.big40 ≤ x5) = false from h5']; exact Bool.false_ne_true)]; rfl)
     clear h5
     go_upto_region 9 with (first | go_skip | ((with_reducible refine isW ?_); refine wpList_load_blk rfl 30 _ rfl STStore w.heap.size rfl s.arr (show Blk _ _ 30 _ from hBj) rfl ?_) | (go_at_call 51; (with_reducible refine (refAtJob s.AJ s.nJ s.cJ s.jobs c.job.id wj (hsj.ext0 hxj) hnJ _ _ _ _ _ _ _ _).mono ?_); rintro e w4 ⟨rfl, hx4⟩; rw [HI.out]; have c2 : w4.cell? ⟨w.heap.size, 2, none⟩ = some (.slice (some ⟨b, off, none⟩) s.nJ s.cJ) := (by rw [← HA.out]; exact (hBj.e0 hx4).cell 2); have k1 : w4.cell? ⟨b, off + i * 7 + 1, none⟩ = some (.int .i64 x1) := hx4.cell (hce 1 _ rfl) (fun e => e); have k5 : w4.cell? ⟨b, off + i * 7 + 5, none⟩ = some (.int .i64 x5) := hx4.cell (hce 5 _ rfl) (fun e => e); have j1 : w4.cell? ⟨J, 1, none⟩ = some (.int .i64 c.job.ty) := (hJj.e0 hx4).cell 1))
     go_quiet (fail)
     have hdq := (Ext.refl Nothing w4).drewN nq
     generalize w4.drewN nq = wq at hdq ⊢
     have hx4q := hx4.tr hdq
     have hBa := hBj.e0 hx4q
     have hJa := hJj.e0 hx4q
     have hRa := hRj.e0 hx4q
     have hEa := hEj.e0 hx4q
     have hxa := hxj.tr hx4q
     have c2q : wq.cell? ⟨w.heap.size, 2, none⟩ = some (.slice (some ⟨b, off, none⟩) s.nJ s.cJ) := hdq.c0 c2
     have k5q : wq.cell? ⟨b, off + i * 7 + 5, none⟩ = some (.int .i64 x5) := hdq.c0 k5
     have j5q : wq.cell? ⟨J, 5, none⟩ = some (.int .i64 1) := hJa.cell 5
     have f5q : wq.frozen? ⟨J, 5, none⟩ = false := hJa.frozen 5
     go_upto_region 14 with (first | go_skip)
     have hs9 : Ext (fun q => q = J) wq (wq.setCell ⟨J, 5, none⟩ (.int .i64 (wrap64 (x5 + 1)))) := Ext.set1 _ _ _ _
     have hJb := hJa.set_ 5 (.int .i64 (wrap64 (x5 + 1)))
     have hBb := hBa.ext hs9 (fun e => absurd (show w.heap.size = J from e) (by omega))
     have hRb := hRa.ext hs9 (fun e => absurd (show w.heap.size + 1 + 1 = J from e) (by omega))
     have hEb := hEa.ext hs9 (fun e => absurd (show w.heap.size + 1 + 1 + 1 = J from e) (by omega))
     have hxb0 : Ext Nothing w (wq.setCell ⟨J, 5, none⟩ (.int .i64 (wrap64 (x5 + 1)))) := hxa.trans hs9 (fun b hb e => absurd (show b = J from e) (by omega))
     have hJb : Blk (wq.setCell ⟨J, 5, none⟩ (.int .i64 (wrap64 (x5 + 1)))) J 39 #[.int .i64 c.job.id, .int .i64 c.job.ty, .int .i64 c.job.prio, .int .i64 c.job.par, .slice c.GA c.gn c.gc, .int .i64 (wrap64 (x5 + 1)), .bool false] := hJb
     generalize (wq.setCell ⟨J, 5, none⟩ (.int .i64 (wrap64 (x5 + 1)))) = wy at hJb hBb hRb hEb hxb0 ⊢
     refine zH (S := fun q => q = (w.heap.size + 1 + 1) ∨ q = (w.heap.size + 1 + 1 + 1)) (by kernel_rfl) (fun Wd hd hd0 => ?_)
     refine zT 0 (.agg s.arr) rfl (by kernel_rfl) (by rfl) hd (fun _ _ _ h => h) ?_ ?_
     ·intro W' hS'
      exact run_load_blk rfl STStore (by go_simp) (hBb.ext hS' (by omega)) rfl
     refine zT 1 (.agg #[.int .i64 c.job.id, .int .i64 c.job.ty, .int .i64 c.job.prio, .int .i64 c.job.par, .slice c.GA c.gn c.gc, .int .i64 (wrap64 (x5 + 1)), .bool false]) rfl (by kernel_rfl) (by rfl) hd (fun _ _ _ h => h) ?_ ?_
     ·intro W' hS'
      exact run_load_blk rfl STJob (by go_simp) (hJb.ext hS' (by omega)) rfl
     refine zT 3 (.pointer (some ⟨J, 5, none⟩)) rfl (by kernel_rfl) (by rfl) hd (fun _ _ _ h => h) ?_ ?_
     ·intro W' hS'
      go_simp
     refine zT 4 (.int .i64 (wrap64 (x5 + 1))) rfl (by kernel_rfl) (by rfl) hd (fun _ _ _ h => h) ?_ ?_
     ·intro W' hS'
      have q5 : W'.cell? ⟨J, 5, none⟩ = some (.int .i64 (wrap64 (x5 + 1))) := (hJb.ext hS' (by omega)).cell 5
      go_simp
     refine zT 5 (.agg (resArr 0 (wrap64 (x5 + 1)))) rfl (by kernel_rfl) (by rfl) hd (fun _ _ _ h => h) ?_ ?_
     ·intro W' hS'
      go_simp
     simp only [Act.put, zA, zB, zC, zD, zE, zF]
     have hxd := hxb0.tr hd0
     have hbd : base ≤ Wd.heap.size := by have := hxd.size; omega
     refine zO 2 (by kernel_rfl) ?_
     refine wpOp_call (f := 52) (args := #[.agg s.arr, .agg #[.int .i64 c.job.id, .int .i64 c.job.ty, .int .i64 c.job.prio, .int .i64 c.job.par, .slice c.GA c.gn c.gc, .int .i64 (wrap64 (x5 + 1)), .bool false]]) rfl (by rfl) (by go_simp) ((refBegins base s c.job.id c.job.ty c.job.prio c.job.par c.job.groups (wrap64 (x5 + 1)) false c.GA c.gn c.gc Wd (h.keep0 hxd) hbd hJ hA hDl hS hE (hc.g.ext0 hxd) hc.gl).mono ?_)
     rintro e wb ⟨s6, rfl, hO6, hd6, hxb⟩
     have hd1 := hd.trans hxb (fun _ _ e => e.elim)
     have hd01 := hd0.tr hxb
     refine ⟨_, rfl, hd1, ?_⟩
     simp only [Act.put, zA, zB, zC, zD, zE, zF]
     refine zO 6 (by kernel_rfl) ?_
     refine wpOp_store (p := (w.heap.size + 1 + 1)) (cs := s6.arr) rfl (by rfl) rfl (by go_simp) (by go_simp) (hRb.e0 hd01) rfl STStore rfl rfl (fun w2 hR2 hx2 => ?_)
     have hd2 := hd1.trans hx2 (fun q hq e => .inl e)
     refine ⟨hd2, ?_⟩
     simp only [Act.put, zA, zB, zC, zD, zE, zF]
     refine zO 7 (by kernel_rfl) ?_
     refine wpOp_store (p := (w.heap.size + 1 + 1 + 1)) (cs := resArr 0 (wrap64 (x5 + 1))) rfl (by rfl) rfl (by go_simp) (by go_simp) ((hEb.e0 hd01).ext hx2 (fun e => absurd (show (w.heap.size + 1 + 1 + 1) = (w.heap.size + 1 + 1) from e) (by omega))) rfl STResult rfl rfl (fun w3 hE3 hx3' => ?_)
     have hx3 := hd2.trans hx3' (fun q hq e => .inr e)
     have hR3 := hR2.ext hx3' (fun e => absurd (show (w.heap.size + 1 + 1) = (w.heap.size + 1 + 1 + 1) from e) (by omega))
     refine ⟨hx3, wpAnyH_done (by kernel_rfl) ?_ _⟩
     simp only [Act.put, zA, zB, zC, zD, zE, zF]
     go_wp2
     have hO8 := (hO6.keep hx2 (Apart.one (hRb.e0 hd01) (by decide))).keep hx3' (Apart.one ((hEb.e0 hd01).ext hx2 (fun e => absurd (show (w.heap.size + 1 + 1 + 1) = (w.heap.size + 1 + 1) from e) (by omega))) (by decide))
     have hxx : Ext Nothing w w3 := hxb0.trans hx3 (fun b hb e => by omega)
     exact bodyPost_ret (results_cell2 rfl STStore STResult rfl rfl hR3 rfl hE3 rfl) rfl ⟨s6, ⟨0, (wrap64 (x5 + 1)), []⟩, rfl, hO8, by rw [HF.out, hd6], rfl, hxx.mono (fun _ _ e => e.elim)⟩
end Go.Proofs.YtlpfcmnnmdhaoaaGreat
