/- Parts of the proof: RefRevert -/
import Derived.Deep.CutRange
import Derived.Test.YtlpfcmnnmdhaoaaGreatQ17
import Derived.Test.YtlpfcmnnmdhaoaaGreatQ12
import Derived.Test.YtlpfcmnnmdhaoaaGreatQ05
namespace Go.Proofs.YtlpfcmnnmdhaoaaGreat
set_option linter.unusedVariables false
set_option linter.unusedSimpArgs false
set_option linter.unusedSectionVars false
open Go.RowKit
theorem stableAt_data {s : StoreV} {job : Int} {x : JobV} (hf : s.stable.find? (fun x : JobV => x.1.id == job) = some x) : Fsm.stableAt s.data job = some x.1 := by
 show (s.stable.map (·.1)).find? (fun j => j.id == job) = _
 rw [List.find?_map]
 show Option.map (·.1) (s.stable.find? (fun x : JobV => x.1.id == job)) = _
 rw [hf]; rfl
theorem stableAt_none {s : StoreV} {job : Int} (hf : s.stable.find? (fun x : JobV => x.1.id == job) = none) : Fsm.stableAt s.data job = none := by
 show (s.stable.map (·.1)).find? (fun j => j.id == job) = _
 rw [List.find?_map]
 show Option.map (·.1) (s.stable.find? (fun x : JobV => x.1.id == job)) = _
 rw [hf]; rfl
namespace Fsm
section
variable {s : StoreD} {c : CmdD} {j x : JobD} {d : DepD}
theorem rv_noJ (hj : jobAt s c.job.id = none) : revert s c = (s, ⟨36, 0, []⟩) := by unfold revert; rw [hj]; rfl
theorem rv_noD (hj : jobAt s c.job.id = some j) (hd : depAt s j.id = none) : revert s c = (s, ⟨33, 0, []⟩) := by unfold revert; rw [hj]; simp only []; rw [hd]; rfl
theorem rv_bad (hj : jobAt s c.job.id = some j) (hd : depAt s j.id = some d) (hb : (!(j.ver == c.job.ver) || !(d.state == 1) || !(d.ver == j.ver)) = true) : revert s c = (s, ⟨33, 0, []⟩) := by unfold revert; rw [hj]; simp only []; rw [hd]; simp only []; rw [if_pos hb]; rfl
variable (hj : jobAt s c.job.id = some j) (hd : depAt s j.id = some d) (hb : (!(j.ver == c.job.ver) || !(d.state == 1) || !(d.ver == j.ver)) = false)
include hj hd hb
theorem rv_none (hs : stableAt s j.id = none) : revert s c = (eval { s with deploys := turn1 (fun d => d.job == j.id) (fun d => { d with state := 3 }) s.deploys } j.id, ⟨0, j.ver, []⟩) := by
 unfold revert; rw [hj]; simp only []; rw [hd]; simp only []; rw [if_neg (by rw [hb]; exact Bool.false_ne_true), hs]
theorem rv_same (hs : stableAt s j.id = some x) (hm : sameJob x j = true) : revert s c = (eval { s with deploys := turn1 (fun d => d.job == j.id) (fun d => { d with state := 3 }) s.deploys } j.id, ⟨0, j.ver, []⟩) := by
 unfold revert; rw [hj]; simp only []; rw [hd]; simp only []; rw [if_neg (by rw [hb]; exact Bool.false_ne_true), hs]; simp only []; rw [if_pos hm]
theorem rv_big (hs : stableAt s j.id = some x) (hm : sameJob x j = false) (hv : 1099511627776 ≤ j.ver) : revert s c = (s, ⟨33, 0, []⟩) := by
 unfold revert; rw [hj]; simp only []; rw [hd]; simp only []; rw [if_neg (by rw [hb]; exact Bool.false_ne_true), hs]; simp only []; rw [if_neg (by rw [hm]; exact Bool.false_ne_true), if_pos (show big40 ≤ j.ver from hv)]; rfl
theorem rv_go (hs : stableAt s j.id = some x) (hm : sameJob x j = false) (hv : ¬ 1099511627776 ≤ j.ver) : revert s c = (begins { s with deploys := turn1 (fun d => d.job == j.id) (fun d => { d with state := 3 }) s.deploys } { x with ver := wrap64 (j.ver + 1), stopped := false }, ⟨0, wrap64 (j.ver + 1), []⟩) := by
 unfold revert; rw [hj]; simp only []; rw [hd]; simp only []; rw [if_neg (by rw [hb]; exact Bool.false_ne_true), hs]; simp only []; rw [if_neg (by rw [hm]; exact Bool.false_ne_true), if_neg (show ¬ big40 ≤ j.ver from hv)]
end
end Fsm
set_option maxRecDepth 20000 in
set_option maxHeartbeats 16000000 in
theorem refRevert (base : Nat) (s : StoreV) (c : CmdV) (w : World) (h : OwnS base w s) (hc : CmdI base w c) (hb : base ≤ w.heap.size) (hJ : s.jobs.length ≤ 1048575) (hA' : s.allocs.length ≤ 1048576) (hDl : s.deploys.length ≤ 1048575) (hS : s.stable.length ≤ 33554432) (hE : s.evals.length ≤ 33554432) :
  Calls Tryz.prog 35 #[.agg s.arr, .agg c.arr] w fun e w' => ∃ s' r, e = .returned (.tuple #[.agg s'.arr, .agg (resArr r.code r.value)]) ∧ OwnS base w' s' ∧ Fsm.revert s.data c.d = (s'.data, r) ∧ r.allocs = [] ∧ Ext (RowB base w) w w' := by
 obtain ⟨hxW, hBW, hCW, hRW, hEW⟩ := enterW w s.arr c.arr #[.int .i64 0, .int .i64 0, .slice none 0 0, .slice none 0 0, .slice none 0 0, .slice none 0 0, .slice none 0 0, .slice none 0 0, .slice none 0 0] #[.int .i64 0, .int .i64 0, .slice none 0 0]
 go_enter Tryz.func35, Tryz.ntmps35
 go_upto_region 1 with fail
 generalize ((((w.alloc (.cells s.arr 30)).alloc (.cells c.arr 51)).alloc (.cells #[.int .i64 0, .int .i64 0, .slice none 0 0, .slice none 0 0, .slice none 0 0, .slice none 0 0, .slice none 0 0, .slice none 0 0, .slice none 0 0] 30)).alloc (.cells #[.int .i64 0, .int .i64 0, .slice none 0 0] 34)) = W at hxW hBW hCW hRW hEW ⊢
 have hzW : w.heap.size + 1 + 1 + 1 < W.heap.size := hEW.lt
 have hO := h.keep0 hxW
 have hnJ : s.nJ ≤ 67108864 := by have := h.jl; omega
 have hnD : s.nD ≤ 67108864 := by have := h.dl; omega
 have hnS : s.nS ≤ 67108864 := by have := h.tl; omega
 have hslj : Sl W 7 s.AJ s.nJ (s.jobs.map JobV.cells) := hO.slJ
 have c3 : W.cell? ⟨w.heap.size + 1, 3, none⟩ = some (.int .i64 c.job.id) := hCW.cell 3
 rcases idx_cases (fun x : JobV => x.1.id == c.job.id) s.jobs with ⟨hi, hf, _⟩ | ⟨i, x, hi, hxi, hp, hf, _⟩
 ·have HI := Lib.hid hi
  have HF := Lib.hid (show Fsm.revert s.data c.d = (s.data, ⟨36, 0, []⟩) from Fsm.rv_noJ (jobAt_none hf))
  clear hi hf
  go_upto_region 3 with (first | go_skip | go_guarded | ((with_reducible refine isW ?_); refine wpList_load_blk rfl 30 _ rfl STStore w.heap.size rfl s.arr (show Blk _ _ 30 _ from hBW) rfl ?_) | (go_at_call 51; (with_reducible refine (refAtJob s.AJ s.nJ s.cJ s.jobs c.job.id W hslj hnJ _ _ _ _ _ _ _ _).mono ?_); rintro e w1 ⟨rfl, hx1⟩; (rw [HI.out])))
  have hBa := hBW.e0 hx1
  have hRa := hRW.e0 hx1
  have hEa := hEW.e0 hx1
  have hxa := hxW.tr hx1
  refine zH (S := fun q => q = (w.heap.size + 1 + 1) ∨ q = (w.heap.size + 1 + 1 + 1)) (by kernel_rfl) (fun Wd hd hd0 => ?_)
  refine zT 0 (.agg s.arr) rfl (by kernel_rfl) (by rfl) hd (fun _ _ _ h => h) ?_ ?_
  ·intro W' hS'
   exact run_load_blk rfl STStore (by go_simp) (hBa.ext hS' (by omega)) rfl
  simp only [Act.put, zA, zB, zC, zD, zE, zF]
  refine zO 1 (by kernel_rfl) ?_
  refine wpOp_call (f := 16) (args := #[.int .i64 36]) rfl (by rfl) (by go_simp) ((refNo 36 Wd).mono ?_)
  rintro e wn ⟨rfl, hxn⟩
  have hd1 := hd.trans hxn (fun _ _ e => e.elim)
  have hd01 := hd0.tr hxn
  refine ⟨_, rfl, hd1, ?_⟩
  simp only [Act.put, zA, zB, zC, zD, zE, zF]
  refine zO 2 (by kernel_rfl) ?_
  refine wpOp_store (p := (w.heap.size + 1 + 1)) (cs := s.arr) rfl (by rfl) rfl (by go_simp) (by go_simp) (hRa.e0 hd01) rfl STStore rfl rfl (fun w2 hR2 hx2 => ?_)
  have hd2 := hd1.trans hx2 (fun q hq e => .inl e)
  refine ⟨hd2, ?_⟩
  simp only [Act.put, zA, zB, zC, zD, zE, zF]
  refine zO 3 (by kernel_rfl) ?_
  refine wpOp_store (p := (w.heap.size + 1 + 1 + 1)) (cs := resArr 36 0) rfl (by rfl) rfl (by go_simp) (by go_simp) ((hEa.e0 hd01).ext hx2 (fun e => absurd (show (w.heap.size + 1 + 1 + 1) = (w.heap.size + 1 + 1) from e) (by omega))) rfl STResult rfl rfl (fun w3 hE3 hx3' => ?_)
  have hx3 := hd2.trans hx3' (fun q hq e => .inr e)
  have hR3 := hR2.ext hx3' (fun e => absurd (show (w.heap.size + 1 + 1) = (w.heap.size + 1 + 1 + 1) from e) (by omega))
  refine ⟨hx3, wpAnyH_done (by kernel_rfl) ?_ _⟩
  simp only [Act.put, zA, zB, zC, zD, zE, zF]
  go_wp2
  have hxx : Ext Nothing w w3 := hxa.trans hx3 (fun b hb e => by omega)
  exact bodyPost_ret (results_cell2 rfl STStore STResult rfl rfl hR3 rfl hE3 rfl) rfl ⟨s, ⟨36, 0, []⟩, rfl, h.keep0 hxx, HF.out, rfl, hxx.mono (fun _ _ e => e.elim)⟩
 ·have HI := Lib.hid hi
  have HJA := Lib.hid (show Fsm.jobAt s.data c.d.job.id = some x.1 from jobAt_data hf)
  obtain ⟨gJ, _, hAJ, _, _, hi1, hceJ, _⟩ := hO.putJ hxi
  have HAJ := Lib.hid (show s.AJ = some ⟨gJ, 0, none⟩ from hAJ)
  have hi1 : (i : Int) < s.nJ := hi1
  have hi0 : (0 : Int) ≤ (i : Int) := by omega
  have hig : ¬ ((i : Int) < 0) := Int.not_lt.2 hi0
  obtain ⟨GA, gn, gc, hjv, hGs, hgl, hgn⟩ := (hO.j.grp x (List.mem_of_getElem? hxi)).sl
  clear hgl
  have hmJ : x ∈ s.jobs := List.mem_of_getElem? hxi
  clear hi hf hp hxi hAJ
  obtain ⟨⟨j0, j1, j2, j3, jg, j5, j6⟩, jv⟩ := x
  have hjv : jv = Value.slice GA gn gc := hjv
  subst hjv
  go_upto_region 4 with (first | go_skip | go_guarded | ((with_reducible refine isW ?_); refine wpList_load_blk rfl 30 _ rfl STStore w.heap.size rfl s.arr (show Blk _ _ 30 _ from hBW) rfl ?_) | (go_at_call 51; (with_reducible refine (refAtJob s.AJ s.nJ s.cJ s.jobs c.job.id W hslj hnJ _ _ _ _ _ _ _ _).mono ?_); rintro e w1 ⟨rfl, hx1⟩; (rw [HI.out]); have c2 : w1.cell? ⟨w.heap.size, 2, none⟩ = some (.slice (some ⟨gJ, 0, none⟩) s.nJ s.cJ) := (by rw [← HAJ.out]; exact (hBW.e0 hx1).cell 2)))
  have hcj : ∀ j u, (#[.int .i64 j0, .int .i64 j1, .int .i64 j2, .int .i64 j3, .slice GA gn gc, .int .i64 j5, .bool j6] : Array Value).toList[j]? = some u → w1.cell? ⟨gJ, i * 7 + j, none⟩ = some u := fun j u hu => hx1.cell (hceJ j u hu) (fun e => e)
  go_upto_region 5 with (first | go_skip | go_guarded | ((with_reducible refine isW ?_); refine wpList_load_at rfl 39 _ rfl STJob gJ (i * 7) rfl #[.int .i64 j0, .int .i64 j1, .int .i64 j2, .int .i64 j3, .slice GA gn gc, .int .i64 j5, .bool j6] hcj rfl ?_))
  have hxj : Ext Nothing w1 (w1.alloc (.cells #[.int .i64 j0, .int .i64 j1, .int .i64 j2, .int .i64 j3, .slice GA gn gc, .int .i64 j5, .bool j6] 39)) := Ext.auto
  have hJj : Blk (w1.alloc (.cells #[.int .i64 j0, .int .i64 j1, .int .i64 j2, .int .i64 j3, .slice GA gn gc, .int .i64 j5, .bool j6] 39)) w1.heap.size 39 #[.int .i64 j0, .int .i64 j1, .int .i64 j2, .int .i64 j3, .slice GA gn gc, .int .i64 j5, .bool j6] := Blk.new _ _ _
  have hW1 := hx1.tr hxj
  have hBj := hBW.e0 hW1
  have hCj := hCW.e0 hW1
  have hRj := hRW.e0 hW1
  have hEj := hEW.e0 hW1
  have hxwj := hxW.tr hW1
  have hGj := hGs.ext0 hW1
  have hzj : w.heap.size + 1 + 1 + 1 < w1.heap.size := (hEW.e0 hx1).lt
  clear hcj c2 hceJ hslj c3 hGs hxj hBW hCW hRW hEW hxW hO hx1
  generalize hQ0 : w1.heap.size = JJ at hJj hzj ⊢
  generalize (w1.alloc (.cells #[.int .i64 j0, .int .i64 j1, .int .i64 j2, .int .i64 j3, .slice GA gn gc, .int .i64 j5, .bool j6] 39)) = wj at hJj hBj hCj hRj hEj hxwj hGj ⊢
  clear hW1 hQ0
  have hOj := h.keep0 hxwj
  have hsld : Sl wj 4 s.AD s.nD (s.deploys.map DepD.cells) := hOj.slD
  have q0 : wj.cell? ⟨JJ, 0, none⟩ = some (.int .i64 j0) := hJj.cell 0
  rcases idx_cases (fun x : DepD => x.job == j0) s.deploys with ⟨hm, hmf, _⟩ | ⟨m, d, hm, hdm, hmp, hmf, hmfirst⟩
  ·have HM := Lib.hid hm
   have HF := Lib.hid (show Fsm.revert s.data c.d = (s.data, ⟨33, 0, []⟩) from Fsm.rv_noD HJA.out hmf)
   clear hm hmf
   cases v1 : (j5 != c.job.ver) with
   | true =>
    go_upto_region 6 with (first | go_skip | go_guarded | ((with_reducible refine isW ?_); refine wpList_load_blk rfl 30 _ rfl STStore w.heap.size rfl s.arr (show Blk _ _ 30 _ from hBj) rfl ?_) | (go_at_call 53; (with_reducible refine (refAtDeploy s.AD s.nD s.cD s.deploys j0 wj hsld hnD _ _ _ _ _ _ _ _).mono ?_); rintro e w2 ⟨rfl, hx2⟩; (rw [HM.out]); have q5 : w2.cell? ⟨JJ, 5, none⟩ = some (.int .i64 j5) := (hJj.e0 hx2).cell 5; have c8 : w2.cell? ⟨w.heap.size + 1, 8, none⟩ = some (.int .i64 c.job.ver) := (hCj.e0 hx2).cell 8))
    go_quiet (fail)
    have hdq := hx2.trans ((Ext.refl Nothing w2).drewN nq) (fun _ _ e => e)
    generalize w2.drewN nq = wq at hdq ⊢
    have hBq := hBj.e0 hdq
    have hRq := hRj.e0 hdq
    have hEq := hEj.e0 hdq
    have hxq := hxwj.tr hdq
    go_upto_region 7 with (first | go_skip | go_guarded)
    refine zH (S := fun q => q = (w.heap.size + 1 + 1) ∨ q = (w.heap.size + 1 + 1 + 1)) (by kernel_rfl) (fun Wd hd hd0 => ?_)
    refine zT 0 (.agg s.arr) rfl (by kernel_rfl) (by rfl) hd (fun _ _ _ h => h) ?_ ?_
    ·intro W' hS'
     exact run_load_blk rfl STStore (by go_simp) (hBq.ext hS' (by omega)) rfl
    simp only [Act.put, zA, zB, zC, zD, zE, zF]
    refine zO 1 (by kernel_rfl) ?_
    refine wpOp_call (f := 16) (args := #[.int .i64 33]) rfl (by rfl) (by go_simp) ((refNo 33 Wd).mono ?_)
    rintro e wn ⟨rfl, hxn⟩
    have hd1 := hd.trans hxn (fun _ _ e => e.elim)
    have hd01 := hd0.tr hxn
    refine ⟨_, rfl, hd1, ?_⟩
    simp only [Act.put, zA, zB, zC, zD, zE, zF]
    refine zO 2 (by kernel_rfl) ?_
    refine wpOp_store (p := (w.heap.size + 1 + 1)) (cs := s.arr) rfl (by rfl) rfl (by go_simp) (by go_simp) (hRq.e0 hd01) rfl STStore rfl rfl (fun w2 hR2 hx2 => ?_)
    have hd2 := hd1.trans hx2 (fun q hq e => .inl e)
    refine ⟨hd2, ?_⟩
    simp only [Act.put, zA, zB, zC, zD, zE, zF]
    refine zO 3 (by kernel_rfl) ?_
    refine wpOp_store (p := (w.heap.size + 1 + 1 + 1)) (cs := resArr 33 0) rfl (by rfl) rfl (by go_simp) (by go_simp) ((hEq.e0 hd01).ext hx2 (fun e => absurd (show (w.heap.size + 1 + 1 + 1) = (w.heap.size + 1 + 1) from e) (by omega))) rfl STResult rfl rfl (fun w3 hE3 hx3' => ?_)
    have hx3 := hd2.trans hx3' (fun q hq e => .inr e)
    have hR3 := hR2.ext hx3' (fun e => absurd (show (w.heap.size + 1 + 1) = (w.heap.size + 1 + 1 + 1) from e) (by omega))
    refine ⟨hx3, wpAnyH_done (by kernel_rfl) ?_ _⟩
    simp only [Act.put, zA, zB, zC, zD, zE, zF]
    go_wp2
    have hxx : Ext Nothing w w3 := hxq.trans hx3 (fun b hb e => by omega)
    exact bodyPost_ret (results_cell2 rfl STStore STResult rfl rfl hR3 rfl hE3 rfl) rfl ⟨s, ⟨33, 0, []⟩, rfl, h.keep0 hxx, HF.out, rfl, hxx.mono (fun _ _ e => e.elim)⟩
   | false =>
    go_upto_region 6 with (first | go_skip | go_guarded | ((with_reducible refine isW ?_); refine wpList_load_blk rfl 30 _ rfl STStore w.heap.size rfl s.arr (show Blk _ _ 30 _ from hBj) rfl ?_) | (go_at_call 53; (with_reducible refine (refAtDeploy s.AD s.nD s.cD s.deploys j0 wj hsld hnD _ _ _ _ _ _ _ _).mono ?_); rintro e w2 ⟨rfl, hx2⟩; (rw [HM.out]); have q5 : w2.cell? ⟨JJ, 5, none⟩ = some (.int .i64 j5) := (hJj.e0 hx2).cell 5; have c8 : w2.cell? ⟨w.heap.size + 1, 8, none⟩ = some (.int .i64 c.job.ver) := (hCj.e0 hx2).cell 8))
    go_quiet (fail)
    have hdq := hx2.trans ((Ext.refl Nothing w2).drewN nq) (fun _ _ e => e)
    generalize w2.drewN nq = wq at hdq ⊢
    have hBq := hBj.e0 hdq
    have hRq := hRj.e0 hdq
    have hEq := hEj.e0 hdq
    have hxq := hxwj.tr hdq
    go_upto_region 7 with (first | go_skip | go_guarded)
    refine zH (S := fun q => q = (w.heap.size + 1 + 1) ∨ q = (w.heap.size + 1 + 1 + 1)) (by kernel_rfl) (fun Wd hd hd0 => ?_)
    refine zT 0 (.agg s.arr) rfl (by kernel_rfl) (by rfl) hd (fun _ _ _ h => h) ?_ ?_
    ·intro W' hS'
     exact run_load_blk rfl STStore (by go_simp) (hBq.ext hS' (by omega)) rfl
    simp only [Act.put, zA, zB, zC, zD, zE, zF]
    refine zO 1 (by kernel_rfl) ?_
    refine wpOp_call (f := 16) (args := #[.int .i64 33]) rfl (by rfl) (by go_simp) ((refNo 33 Wd).mono ?_)
    rintro e wn ⟨rfl, hxn⟩
    have hd1 := hd.trans hxn (fun _ _ e => e.elim)
    have hd01 := hd0.tr hxn
    refine ⟨_, rfl, hd1, ?_⟩
    simp only [Act.put, zA, zB, zC, zD, zE, zF]
    refine zO 2 (by kernel_rfl) ?_
    refine wpOp_store (p := (w.heap.size + 1 + 1)) (cs := s.arr) rfl (by rfl) rfl (by go_simp) (by go_simp) (hRq.e0 hd01) rfl STStore rfl rfl (fun w2 hR2 hx2 => ?_)
    have hd2 := hd1.trans hx2 (fun q hq e => .inl e)
    refine ⟨hd2, ?_⟩
    simp only [Act.put, zA, zB, zC, zD, zE, zF]
    refine zO 3 (by kernel_rfl) ?_
    refine wpOp_store (p := (w.heap.size + 1 + 1 + 1)) (cs := resArr 33 0) rfl (by rfl) rfl (by go_simp) (by go_simp) ((hEq.e0 hd01).ext hx2 (fun e => absurd (show (w.heap.size + 1 + 1 + 1) = (w.heap.size + 1 + 1) from e) (by omega))) rfl STResult rfl rfl (fun w3 hE3 hx3' => ?_)
    have hx3 := hd2.trans hx3' (fun q hq e => .inr e)
    have hR3 := hR2.ext hx3' (fun e => absurd (show (w.heap.size + 1 + 1) = (w.heap.size + 1 + 1 + 1) from e) (by omega))
    refine ⟨hx3, wpAnyH_done (by kernel_rfl) ?_ _⟩
    simp only [Act.put, zA, zB, zC, zD, zE, zF]
    go_wp2
    have hxx : Ext Nothing w w3 := hxq.trans hx3 (fun b hb e => by omega)
    exact bodyPost_ret (results_cell2 rfl STStore STResult rfl rfl hR3 rfl hE3 rfl) rfl ⟨s, ⟨33, 0, []⟩, rfl, h.keep0 hxx, HF.out, rfl, hxx.mono (fun _ _ e => e.elim)⟩
  ·have HM := Lib.hid hm
   have HDA := Lib.hid (show Fsm.depAt s.data j0 = some d from hmf)
   have HDM := Lib.hid hdm
   have HMP := Lib.hid hmp
   have HMF := Lib.hid hmfirst
   obtain ⟨gD, _, hAD, hobD, _, hm1, hceD, _⟩ := hOj.putD hdm
   have HAD := Lib.hid (show s.AD = some ⟨gD, 0, none⟩ from hAD)
   have hm1 : (m : Int) < s.nD := hm1
   have hm0 : (0 : Int) ≤ (m : Int) := by omega
   have hmg : ¬ ((m : Int) < 0) := Int.not_lt.2 hm0
   have hmd : decide ((m : Int) < 0) = false := decide_eq_false hmg
   have hgD1 : base ≤ gD := own_ge hOj.d hobD
   have hgD2 : gD < w.heap.size := own_lt h.d hobD
   clear hm hdm hmp hmf hmfirst hAD
   obtain ⟨d0, d1, d2, d3⟩ := d
   cases v1 : (j5 != c.job.ver) with
   | true =>
    have HF := Lib.hid (show Fsm.revert s.data c.d = (s.data, ⟨33, 0, []⟩) from Fsm.rv_bad HJA.out HDA.out (show (!(j5 == c.job.ver) || !(d2 == 1) || !(d1 == j5)) = true by rw [show (j5 == c.job.ver) = false from by simpa using v1]; rfl))
    go_upto_region 6 with (first | go_skip | go_guarded | ((with_reducible refine isW ?_); refine wpList_load_blk rfl 30 _ rfl STStore w.heap.size rfl s.arr (show Blk _ _ 30 _ from hBj) rfl ?_) | (go_at_call 53; (with_reducible refine (refAtDeploy s.AD s.nD s.cD s.deploys j0 wj hsld hnD _ _ _ _ _ _ _ _).mono ?_); rintro e w2 ⟨rfl, hx2⟩; (rw [HM.out]); have q5 : w2.cell? ⟨JJ, 5, none⟩ = some (.int .i64 j5) := (hJj.e0 hx2).cell 5; have c8 : w2.cell? ⟨w.heap.size + 1, 8, none⟩ = some (.int .i64 c.job.ver) := (hCj.e0 hx2).cell 8; have c7 : w2.cell? ⟨w.heap.size, 7, none⟩ = some (.slice (some ⟨gD, 0, none⟩) s.nD s.cD) := (by rw [← HAD.out]; exact (hBj.e0 hx2).cell 7); have kd1 : w2.cell? ⟨gD, m * 4 + 1, none⟩ = some (.int .i64 d1) := hx2.cell (hceD 1 _ rfl) (fun e => e); have kd2 : w2.cell? ⟨gD, m * 4 + 2, none⟩ = some (.int .i64 d2) := hx2.cell (hceD 2 _ rfl) (fun e => e)))
    go_quiet (fail)
    have hdq := hx2.trans ((Ext.refl Nothing w2).drewN nq) (fun _ _ e => e)
    generalize w2.drewN nq = wq at hdq ⊢
    have hBq := hBj.e0 hdq
    have hRq := hRj.e0 hdq
    have hEq := hEj.e0 hdq
    have hxq := hxwj.tr hdq
    go_upto_region 7 with (first | go_skip | go_guarded)
    refine zH (S := fun q => q = (w.heap.size + 1 + 1) ∨ q = (w.heap.size + 1 + 1 + 1)) (by kernel_rfl) (fun Wd hd hd0 => ?_)
    refine zT 0 (.agg s.arr) rfl (by kernel_rfl) (by rfl) hd (fun _ _ _ h => h) ?_ ?_
    ·intro W' hS'
     exact run_load_blk rfl STStore (by go_simp) (hBq.ext hS' (by omega)) rfl
    simp only [Act.put, zA, zB, zC, zD, zE, zF]
    refine zO 1 (by kernel_rfl) ?_
    refine wpOp_call (f := 16) (args := #[.int .i64 33]) rfl (by rfl) (by go_simp) ((refNo 33 Wd).mono ?_)
    rintro e wn ⟨rfl, hxn⟩
    have hd1 := hd.trans hxn (fun _ _ e => e.elim)
    have hd01 := hd0.tr hxn
    refine ⟨_, rfl, hd1, ?_⟩
    simp only [Act.put, zA, zB, zC, zD, zE, zF]
    refine zO 2 (by kernel_rfl) ?_
    refine wpOp_store (p := (w.heap.size + 1 + 1)) (cs := s.arr) rfl (by rfl) rfl (by go_simp) (by go_simp) (hRq.e0 hd01) rfl STStore rfl rfl (fun w2 hR2 hx2 => ?_)
    have hd2 := hd1.trans hx2 (fun q hq e => .inl e)
    refine ⟨hd2, ?_⟩
    simp only [Act.put, zA, zB, zC, zD, zE, zF]
    refine zO 3 (by kernel_rfl) ?_
    refine wpOp_store (p := (w.heap.size + 1 + 1 + 1)) (cs := resArr 33 0) rfl (by rfl) rfl (by go_simp) (by go_simp) ((hEq.e0 hd01).ext hx2 (fun e => absurd (show (w.heap.size + 1 + 1 + 1) = (w.heap.size + 1 + 1) from e) (by omega))) rfl STResult rfl rfl (fun w3 hE3 hx3' => ?_)
    have hx3 := hd2.trans hx3' (fun q hq e => .inr e)
    have hR3 := hR2.ext hx3' (fun e => absurd (show (w.heap.size + 1 + 1) = (w.heap.size + 1 + 1 + 1) from e) (by omega))
    refine ⟨hx3, wpAnyH_done (by kernel_rfl) ?_ _⟩
    simp only [Act.put, zA, zB, zC, zD, zE, zF]
    go_wp2
    have hxx : Ext Nothing w w3 := hxq.trans hx3 (fun b hb e => by omega)
    exact bodyPost_ret (results_cell2 rfl STStore STResult rfl rfl hR3 rfl hE3 rfl) rfl ⟨s, ⟨33, 0, []⟩, rfl, h.keep0 hxx, HF.out, rfl, hxx.mono (fun _ _ e => e.elim)⟩
   | false =>
    cases v2 : (d2 != 1) with
    | true =>
     have HF := Lib.hid (show Fsm.revert s.data c.d = (s.data, ⟨33, 0, []⟩) from Fsm.rv_bad HJA.out HDA.out (show (!(j5 == c.job.ver) || !(d2 == 1) || !(d1 == j5)) = true by rw [show (d2 == 1) = false from by simpa using v2]; simp))
     go_upto_region 6 with (first | go_skip | go_guarded | ((with_reducible refine isW ?_); refine wpList_load_blk rfl 30 _ rfl STStore w.heap.size rfl s.arr (show Blk _ _ 30 _ from hBj) rfl ?_) | (go_at_call 53; (with_reducible refine (refAtDeploy s.AD s.nD s.cD s.deploys j0 wj hsld hnD _ _ _ _ _ _ _ _).mono ?_); rintro e w2 ⟨rfl, hx2⟩; (rw [HM.out]); have q5 : w2.cell? ⟨JJ, 5, none⟩ = some (.int .i64 j5) := (hJj.e0 hx2).cell 5; have c8 : w2.cell? ⟨w.heap.size + 1, 8, none⟩ = some (.int .i64 c.job.ver) := (hCj.e0 hx2).cell 8; have c7 : w2.cell? ⟨w.heap.size, 7, none⟩ = some (.slice (some ⟨gD, 0, none⟩) s.nD s.cD) := (by rw [← HAD.out]; exact (hBj.e0 hx2).cell 7); have kd1 : w2.cell? ⟨gD, m * 4 + 1, none⟩ = some (.int .i64 d1) := hx2.cell (hceD 1 _ rfl) (fun e => e); have kd2 : w2.cell? ⟨gD, m * 4 + 2, none⟩ = some (.int .i64 d2) := hx2.cell (hceD 2 _ rfl) (fun e => e)))
     go_quiet (fail)
     have hdq := hx2.trans ((Ext.refl Nothing w2).drewN nq) (fun _ _ e => e)
     generalize w2.drewN nq = wq at hdq ⊢
     have hBq := hBj.e0 hdq
     have hRq := hRj.e0 hdq
     have hEq := hEj.e0 hdq
     have hxq := hxwj.tr hdq
     go_upto_region 7 with (first | go_skip | go_guarded)
     refine zH (S := fun q => q = (w.heap.size + 1 + 1) ∨ q = (w.heap.size + 1 + 1 + 1)) (by kernel_rfl) (fun Wd hd hd0 => ?_)
     refine zT 0 (.agg s.arr) rfl (by kernel_rfl) (by rfl) hd (fun _ _ _ h => h) ?_ ?_
     ·intro W' hS'
      exact run_load_blk rfl STStore (by go_simp) (hBq.ext hS' (by omega)) rfl
     simp only [Act.put, zA, zB, zC, zD, zE, zF]
     refine zO 1 (by kernel_rfl) ?_
     refine wpOp_call (f := 16) (args := #[.int .i64 33]) rfl (by rfl) (by go_simp) ((refNo 33 Wd).mono ?_)
     rintro e wn ⟨rfl, hxn⟩
     have hd1 := hd.trans hxn (fun _ _ e => e.elim)
     have hd01 := hd0.tr hxn
     refine ⟨_, rfl, hd1, ?_⟩
     simp only [Act.put, zA, zB, zC, zD, zE, zF]
     refine zO 2 (by kernel_rfl) ?_
     refine wpOp_store (p := (w.heap.size + 1 + 1)) (cs := s.arr) rfl (by rfl) rfl (by go_simp) (by go_simp) (hRq.e0 hd01) rfl STStore rfl rfl (fun w2 hR2 hx2 => ?_)
     have hd2 := hd1.trans hx2 (fun q hq e => .inl e)
     refine ⟨hd2, ?_⟩
     simp only [Act.put, zA, zB, zC, zD, zE, zF]
     refine zO 3 (by kernel_rfl) ?_
     refine wpOp_store (p := (w.heap.size + 1 + 1 + 1)) (cs := resArr 33 0) rfl (by rfl) rfl (by go_simp) (by go_simp) ((hEq.e0 hd01).ext hx2 (fun e => absurd (show (w.heap.size + 1 + 1 + 1) = (w.heap.size + 1 + 1) from e) (by omega))) rfl STResult rfl rfl (fun w3 hE3 hx3' => ?_)
     have hx3 := hd2.trans hx3' (fun q hq e => .inr e)
     have hR3 := hR2.ext hx3' (fun e => absurd (show (w.heap.size + 1 + 1) = (w.heap.size + 1 + 1 + 1) from e) (by omega))
     refine ⟨hx3, wpAnyH_done (by kernel_rfl) ?_ _⟩
     simp only [Act.put, zA, zB, zC, zD, zE, zF]
     go_wp2
     have hxx : Ext Nothing w w3 := hxq.trans hx3 (fun b hb e => by omega)
     exact bodyPost_ret (results_cell2 rfl STStore STResult rfl rfl hR3 rfl hE3 rfl) rfl ⟨s, ⟨33, 0, []⟩, rfl, h.keep0 hxx, HF.out, rfl, hxx.mono (fun _ _ e => e.elim)⟩
    | false =>
     cases v3 : (d1 != j5) with
     | true =>
      have HF := Lib.hid (show Fsm.revert s.data c.d = (s.data, ⟨33, 0, []⟩) from Fsm.rv_bad HJA.out HDA.out (show (!(j5 == c.job.ver) || !(d2 == 1) || !(d1 == j5)) = true by rw [show (d1 == j5) = false from by simpa using v3]; simp))
      go_upto_region 6 with (first | go_skip | go_guarded | ((with_reducible refine isW ?_); refine wpList_load_blk rfl 30 _ rfl STStore w.heap.size rfl s.arr (show Blk _ _ 30 _ from hBj) rfl ?_) | (go_at_call 53; (with_reducible refine (refAtDeploy s.AD s.nD s.cD s.deploys j0 wj hsld hnD _ _ _ _ _ _ _ _).mono ?_); rintro e w2 ⟨rfl, hx2⟩; (rw [HM.out]); have q5 : w2.cell? ⟨JJ, 5, none⟩ = some (.int .i64 j5) := (hJj.e0 hx2).cell 5; have c8 : w2.cell? ⟨w.heap.size + 1, 8, none⟩ = some (.int .i64 c.job.ver) := (hCj.e0 hx2).cell 8; have c7 : w2.cell? ⟨w.heap.size, 7, none⟩ = some (.slice (some ⟨gD, 0, none⟩) s.nD s.cD) := (by rw [← HAD.out]; exact (hBj.e0 hx2).cell 7); have kd1 : w2.cell? ⟨gD, m * 4 + 1, none⟩ = some (.int .i64 d1) := hx2.cell (hceD 1 _ rfl) (fun e => e); have kd2 : w2.cell? ⟨gD, m * 4 + 2, none⟩ = some (.int .i64 d2) := hx2.cell (hceD 2 _ rfl) (fun e => e)))
      go_quiet (fail)
      have hdq := hx2.trans ((Ext.refl Nothing w2).drewN nq) (fun _ _ e => e)
      generalize w2.drewN nq = wq at hdq ⊢
      have hBq := hBj.e0 hdq
      have hRq := hRj.e0 hdq
      have hEq := hEj.e0 hdq
      have hxq := hxwj.tr hdq
      go_upto_region 7 with (first | go_skip | go_guarded)
      refine zH (S := fun q => q = (w.heap.size + 1 + 1) ∨ q = (w.heap.size + 1 + 1 + 1)) (by kernel_rfl) (fun Wd hd hd0 => ?_)
      refine zT 0 (.agg s.arr) rfl (by kernel_rfl) (by rfl) hd (fun _ _ _ h => h) ?_ ?_
      ·intro W' hS'
       exact run_load_blk rfl STStore (by go_simp) (hBq.ext hS' (by omega)) rfl
      simp only [Act.put, zA, zB, zC, zD, zE, zF]
      refine zO 1 (by kernel_rfl) ?_
      refine wpOp_call (f := 16) (args := #[.int .i64 33]) rfl (by rfl) (by go_simp) ((refNo 33 Wd).mono ?_)
      rintro e wn ⟨rfl, hxn⟩
      have hd1 := hd.trans hxn (fun _ _ e => e.elim)
      have hd01 := hd0.tr hxn
      refine ⟨_, rfl, hd1, ?_⟩
      simp only [Act.put, zA, zB, zC, zD, zE, zF]
      refine zO 2 (by kernel_rfl) ?_
      refine wpOp_store (p := (w.heap.size + 1 + 1)) (cs := s.arr) rfl (by rfl) rfl (by go_simp) (by go_simp) (hRq.e0 hd01) rfl STStore rfl rfl (fun w2 hR2 hx2 => ?_)
      have hd2 := hd1.trans hx2 (fun q hq e => .inl e)
      refine ⟨hd2, ?_⟩
      simp only [Act.put, zA, zB, zC, zD, zE, zF]
      refine zO 3 (by kernel_rfl) ?_
      refine wpOp_store (p := (w.heap.size + 1 + 1 + 1)) (cs := resArr 33 0) rfl (by rfl) rfl (by go_simp) (by go_simp) ((hEq.e0 hd01).ext hx2 (fun e => absurd (show (w.heap.size + 1 + 1 + 1) = (w.heap.size + 1 + 1) from e) (by omega))) rfl STResult rfl rfl (fun w3 hE3 hx3' => ?_)
      have hx3 := hd2.trans hx3' (fun q hq e => .inr e)
      have hR3 := hR2.ext hx3' (fun e => absurd (show (w.heap.size + 1 + 1) = (w.heap.size + 1 + 1 + 1) from e) (by omega))
      refine ⟨hx3, wpAnyH_done (by kernel_rfl) ?_ _⟩
      simp only [Act.put, zA, zB, zC, zD, zE, zF]
      go_wp2
      have hxx : Ext Nothing w w3 := hxq.trans hx3 (fun b hb e => by omega)
      exact bodyPost_ret (results_cell2 rfl STStore STResult rfl rfl hR3 rfl hE3 rfl) rfl ⟨s, ⟨33, 0, []⟩, rfl, h.keep0 hxx, HF.out, rfl, hxx.mono (fun _ _ e => e.elim)⟩
     | false =>
      have HPG := Lib.hid (show (!(j5 == c.job.ver) || !(d2 == 1) || !(d1 == j5)) = false by rw [show (j5 == c.job.ver) = true from by simpa using v1, show (d2 == 1) = true from by simpa using v2, show (d1 == j5) = true from by simpa using v3]; rfl)
      go_upto_region 6 with (first | go_skip | go_guarded | ((with_reducible refine isW ?_); refine wpList_load_blk rfl 30 _ rfl STStore w.heap.size rfl s.arr (show Blk _ _ 30 _ from hBj) rfl ?_) | (go_at_call 53; (with_reducible refine (refAtDeploy s.AD s.nD s.cD s.deploys j0 wj hsld hnD _ _ _ _ _ _ _ _).mono ?_); rintro e w2 ⟨rfl, hx2⟩; (rw [HM.out]); have q5 : w2.cell? ⟨JJ, 5, none⟩ = some (.int .i64 j5) := (hJj.e0 hx2).cell 5; have c8 : w2.cell? ⟨w.heap.size + 1, 8, none⟩ = some (.int .i64 c.job.ver) := (hCj.e0 hx2).cell 8; have c7 : w2.cell? ⟨w.heap.size, 7, none⟩ = some (.slice (some ⟨gD, 0, none⟩) s.nD s.cD) := (by rw [← HAD.out]; exact (hBj.e0 hx2).cell 7); have kd1 : w2.cell? ⟨gD, m * 4 + 1, none⟩ = some (.int .i64 d1) := hx2.cell (hceD 1 _ rfl) (fun e => e); have kd2 : w2.cell? ⟨gD, m * 4 + 2, none⟩ = some (.int .i64 d2) := hx2.cell (hceD 2 _ rfl) (fun e => e)))
      go_quiet (fail)
      have hdq := hx2.trans ((Ext.refl Nothing w2).drewN nq) (fun _ _ e => e)
      generalize w2.drewN nq = wq at hdq ⊢
      have hBq := hBj.e0 hdq
      have hRq := hRj.e0 hdq
      have hEq := hEj.e0 hdq
      have hxq := hxwj.tr hdq
      have hJq := hJj.e0 hdq
      have hGq := hGj.ext0 hdq
      have hOq := h.keep0 hxq
      have hslt : Sl wq 7 s.AS s.nS (s.stable.map JobV.cells) := hOq.slT
      have q0q : wq.cell? ⟨JJ, 0, none⟩ = some (.int .i64 j0) := hJq.cell 0
      clear hsld q0 q5 c8 c7 kd1 kd2 hceD hBj hCj hRj hEj hxwj hGj hOj hJj hdq hx2
      go_upto_region 8 with (first | go_skip | go_guarded)
      rcases idx_cases (fun x : JobV => x.1.id == j0) s.stable with ⟨hk, hkf, _⟩ | ⟨k, x, hk, hxk, hkp, hkf, _⟩
      ·have HK := Lib.hid hk
       have HF := Lib.hid (Fsm.rv_none (s := s.data) (c := c.d) HJA.out HDA.out HPG.out (stableAt_none hkf))
       clear hk hkf
       go_upto_region 16 with (first | go_skip | go_guarded | ((with_reducible refine isW ?_); refine wpList_load_blk rfl 30 _ rfl STStore w.heap.size rfl s.arr (show Blk _ _ 30 _ from hBq) rfl ?_) | (go_at_call 64; (with_reducible refine (refAtStable s.AS s.nS s.cS s.stable j0 wq hslt hnS _ _ _ _ _ _ _ _).mono ?_); rintro e w4 ⟨rfl, hx4⟩; (rw [HK.out])))
       have hB4 := hBq.e0 hx4
       have hJ4 := hJq.e0 hx4
       have hR4 := hRq.e0 hx4
       have hE4 := hEq.e0 hx4
       have hxw4 := hxq.tr hx4
       have hO4 := h.keep0 hxw4
       obtain ⟨gD2, _, hAD2, _, hgb, _, hce, hput⟩ := hO4.putD HDM.out
       have hgg : gD = gD2 := by have h7 : s.AD = some ⟨gD2, 0, none⟩ := hAD2; rw [HAD.out] at h7; injection h7 with h7; injection h7
       subst hgg
       clear hAD2
       have hO6 : OwnS base (w4.setCell ⟨gD, m * 4 + 2, none⟩ (.int .i64 3)) ({ s with deploys := s.deploys.set m ⟨d0, d1, 3, d3⟩ } : StoreV) := hput 2 (.int .i64 3) ⟨d0, d1, 3, d3⟩ (by decide) rfl
       have hs6 : Ext (fun b => b = gD) w4 (w4.setCell ⟨gD, m * 4 + 2, none⟩ (.int .i64 3)) := Ext.set1 _ _ _ _
       have c7 : w4.cell? ⟨w.heap.size, 7, none⟩ = some (.slice (some ⟨gD, 0, none⟩) s.nD s.cD) := (by rw [← HAD.out]; exact hB4.cell 7)
       have kd2 : w4.cell? ⟨gD, m * 4 + 2, none⟩ = some (.int .i64 d2) := hce 2 _ rfl
       have fd2 : w4.frozen? ⟨gD, m * 4 + 2, none⟩ = false := hgb.frozen _
       have hB6 : Blk (w4.setCell ⟨gD, m * 4 + 2, none⟩ (.int .i64 3)) w.heap.size 30 ({ s with deploys := s.deploys.set m ⟨d0, d1, 3, d3⟩ } : StoreV).arr := hB4.ext hs6 (fun e => absurd (show w.heap.size = gD from e) (by omega))
       have hJ6 := hJ4.ext hs6 (fun e => absurd (show JJ = gD from e) (by omega))
       have hR6 := hR4.ext hs6 (fun e => absurd (show (w.heap.size + 1 + 1) = gD from e) (by omega))
       have hE6 := hE4.ext hs6 (fun e => absurd (show (w.heap.size + 1 + 1 + 1) = gD from e) (by omega))
       have hx6 : Ext (RowB base w) w (w4.setCell ⟨gD, m * 4 + 2, none⟩ (.int .i64 3)) := Ext.setRow (hxw4.mono (fun _ _ e => e.elim)) (RowB.of_blk hgb (by decide) hgD1) _
       go_upto_region 17 with (first | go_skip | go_guarded)
       clear c7 kd2 fd2 hput hce hgb hs6 hB4 hJ4 hR4 hE4 hO4 hxw4
       generalize (w4.setCell ⟨gD, m * 4 + 2, none⟩ (.int .i64 3)) = w6 at hO6 hB6 hJ6 hR6 hE6 hx6 ⊢
       have hb6 : base ≤ w6.heap.size := by have := hx6.size; omega
       have HTD := Lib.hid (Fsm.turn1_set (f := fun d : DepD => { d with state := 3 }) HDM.out HMP.out HMF.out)
       have hJE : ({ s with deploys := s.deploys.set m ⟨d0, d1, 3, d3⟩ } : StoreV).jobs.length ≤ 67108864 := by show s.jobs.length ≤ _; omega
       have hEE : ({ s with deploys := s.deploys.set m ⟨d0, d1, 3, d3⟩ } : StoreV).evals.length < 67108862 := by show s.evals.length < _; omega
       refine zH (S := fun q => q = (w.heap.size + 1 + 1) ∨ q = (w.heap.size + 1 + 1 + 1)) (by kernel_rfl) (fun Wd hd hd0 => ?_)
       refine zT 0 (.agg ({ s with deploys := s.deploys.set m ⟨d0, d1, 3, d3⟩ } : StoreV).arr) rfl (by kernel_rfl) (by rfl) hd (fun _ _ _ h => h) ?_ ?_
       ·intro W' hS'
        exact run_load_blk rfl STStore (by go_simp) (hB6.ext hS' (by omega)) rfl
       refine zT 1 (.pointer (some ⟨JJ, 0, none⟩)) rfl (by kernel_rfl) (by rfl) hd (fun _ _ _ h => h) ?_ ?_
       ·intro W' hS'
        go_simp
       refine zT 2 (.int .i64 j0) rfl (by kernel_rfl) (by rfl) hd (fun _ _ _ h => h) ?_ ?_
       ·intro W' hS'
        have z0 : W'.cell? ⟨JJ, 0, none⟩ = some (.int .i64 j0) := (hJ6.ext hS' (by omega)).cell 0
        go_simp
       refine zT 4 (.pointer (some ⟨JJ, 5, none⟩)) rfl (by kernel_rfl) (by rfl) hd (fun _ _ _ h => h) ?_ ?_
       ·intro W' hS'
        go_simp
       refine zT 5 (.int .i64 j5) rfl (by kernel_rfl) (by rfl) hd (fun _ _ _ h => h) ?_ ?_
       ·intro W' hS'
        have z0 : W'.cell? ⟨JJ, 5, none⟩ = some (.int .i64 j5) := (hJ6.ext hS' (by omega)).cell 5
        go_simp
       refine zT 6 (.agg (resArr 0 j5)) rfl (by kernel_rfl) (by rfl) hd (fun _ _ _ h => h) ?_ ?_
       ·intro W' hS'
        go_simp
       simp only [Act.put, zA, zB, zC, zD, zE, zF]
       refine zO 3 (by kernel_rfl) ?_
       refine wpOp_call (f := 54) (args := #[.agg ({ s with deploys := s.deploys.set m ⟨d0, d1, 3, d3⟩ } : StoreV).arr, .int .i64 j0]) rfl (by rfl) (by go_simp) ((refEval base ({ s with deploys := s.deploys.set m ⟨d0, d1, 3, d3⟩ } : StoreV) j0 Wd (hO6.keep0 hd0) (by have := hd0.size; omega) hJE hEE).mono ?_)
       rintro e w7 ⟨s7, rfl, hO7, hD7, _, hx7⟩
       have hd1 := hd.trans hx7 (fun _ _ e => e.elim)
       have hd01 := hd0.tr hx7
       have hR7 := hR6.e0 hd01
       have hE7 := hE6.e0 hd01
       refine ⟨_, rfl, hd1, ?_⟩
       simp only [Act.put, zA, zB, zC, zD, zE, zF]
       refine zO 7 (by kernel_rfl) ?_
       refine wpOp_store (p := (w.heap.size + 1 + 1)) (cs := s7.arr) rfl (by rfl) rfl (by go_simp) (by go_simp) hR7 rfl STStore rfl rfl (fun w2 hR2 hx2 => ?_)
       have hd2 := hd1.trans hx2 (fun q hq e => .inl e)
       refine ⟨hd2, ?_⟩
       simp only [Act.put, zA, zB, zC, zD, zE, zF]
       refine zO 8 (by kernel_rfl) ?_
       refine wpOp_store (p := (w.heap.size + 1 + 1 + 1)) (cs := resArr 0 j5) rfl (by rfl) rfl (by go_simp) (by go_simp) (hE7.ext hx2 (fun e => absurd (show (w.heap.size + 1 + 1 + 1) = (w.heap.size + 1 + 1) from e) (by omega))) rfl STResult rfl rfl (fun w3 hE3 hx3' => ?_)
       have hx3 := hd2.trans hx3' (fun q hq e => .inr e)
       have hR3 := hR2.ext hx3' (fun e => absurd (show (w.heap.size + 1 + 1) = (w.heap.size + 1 + 1 + 1) from e) (by omega))
       refine ⟨hx3, wpAnyH_done (by kernel_rfl) ?_ _⟩
       simp only [Act.put, zA, zB, zC, zD, zE, zF]
       go_wp2
       have hx73 : Ext (fun q => q = (w.heap.size + 1 + 1) ∨ q = (w.heap.size + 1 + 1 + 1)) w7 w3 := (hx2.mono (fun _ _ e => .inl e)).trans hx3' (fun _ _ e => .inr e)
       exact bodyPost_ret (results_cell2 rfl STStore STResult rfl rfl hR3 rfl hE3 rfl) rfl ⟨s7, ⟨0, j5, []⟩, rfl, hO7.keep hx73 (fun q e => by rcases e with rfl | rfl; exact ⟨_, _, hR7, by decide⟩; exact ⟨_, _, hE7, by decide⟩), by rw [HF.out, hD7]; exact congrArg (fun z => (Fsm.eval ({ s.data with deploys := z } : StoreD) j0, (⟨0, j5, []⟩ : ResultD))) HTD.out, rfl, hx6.trans hx3 (fun b hb e => by omega)⟩
      ·have HK := Lib.hid hk
       have HSA := Lib.hid (show Fsm.stableAt s.data j0 = some x.1 from stableAt_data hkf)
       have HXK := Lib.hid hxk
       have hkn : k < s.nS := by rw [h.tl]; exact (List.getElem?_eq_some_iff.1 hxk).1
       obtain ⟨hkl, bS, oS, hAS, hceS⟩ := hslt.get (Ext.refl Nothing wq) hkn
       rw [(List.getElem?_eq_some_iff.1 hxk).2] at hceS
       have HAS := Lib.hid hAS
       have hk1 : (k : Int) < s.nS := by omega
       have hk0 : (0 : Int) ≤ (k : Int) := by omega
       have hkg : decide ((0 : Int) ≤ (k : Int)) = true := by simp
       have hkg2 : ¬ ((k : Int) < 0) := Int.not_lt.2 hk0
       have hkd : decide ((k : Int) < 0) = false := decide_eq_false hkg2
       obtain ⟨HA, hn, hc2, hxv, hHs, hhl, hhn⟩ := (hOq.t.grp x (List.mem_of_getElem? hxk)).sl
       clear hhl
       have hmT : x ∈ s.stable := List.mem_of_getElem? hxk
       clear hk hkf hxk hkp hAS hkl
       obtain ⟨⟨x0, x1, x2, x3, xg, x5, x6⟩, xv⟩ := x
       have hxv : xv = Value.slice HA hn hc2 := hxv
       subst hxv
       go_upto_region 11 with (first | go_skip | go_guarded | ((with_reducible refine isW ?_); refine wpList_load_blk rfl 30 _ rfl STStore w.heap.size rfl s.arr (show Blk _ _ 30 _ from hBq) rfl ?_) | (go_at_call 64; (with_reducible refine (refAtStable s.AS s.nS s.cS s.stable j0 wq hslt hnS _ _ _ _ _ _ _ _).mono ?_); rintro e w4 ⟨rfl, hx4⟩; (rw [HK.out]); have c3 : w4.cell? ⟨w.heap.size, 3, none⟩ = some (.slice (some ⟨bS, oS, none⟩) s.nS s.cS) := (by rw [← HAS.out]; exact (hBq.e0 hx4).cell 3)))
       have hcx : ∀ j u, (#[.int .i64 x0, .int .i64 x1, .int .i64 x2, .int .i64 x3, .slice HA hn hc2, .int .i64 x5, .bool x6] : Array Value).toList[j]? = some u → w4.cell? ⟨bS, oS + k * 7 + j, none⟩ = some u := fun j u hu => hx4.cell (hceS j u hu) (fun e => e)
       go_upto_region 12 with (first | go_skip | go_guarded | ((with_reducible refine isW ?_); refine wpList_load_at rfl 39 _ rfl STJob bS (oS + k * 7) rfl #[.int .i64 x0, .int .i64 x1, .int .i64 x2, .int .i64 x3, .slice HA hn hc2, .int .i64 x5, .bool x6] hcx rfl ?_))
       have hx5 : Ext Nothing w4 (w4.alloc (.cells #[.int .i64 x0, .int .i64 x1, .int .i64 x2, .int .i64 x3, .slice HA hn hc2, .int .i64 x5, .bool x6] 39)) := Ext.auto
       have hX5 : Blk (w4.alloc (.cells #[.int .i64 x0, .int .i64 x1, .int .i64 x2, .int .i64 x3, .slice HA hn hc2, .int .i64 x5, .bool x6] 39)) w4.heap.size 39 #[.int .i64 x0, .int .i64 x1, .int .i64 x2, .int .i64 x3, .slice HA hn hc2, .int .i64 x5, .bool x6] := Blk.new _ _ _
       have h45 := hx4.tr hx5
       have hB5 := hBq.e0 h45
       have hJ5 := hJq.e0 h45
       have hR5 := hRq.e0 h45
       have hE5 := hEq.e0 h45
       have hxw5 := hxq.tr h45
       have hG5 := hGq.ext0 h45
       have hH5 := hHs.ext0 h45
       have hzx : JJ < w4.heap.size := (hJq.e0 hx4).lt
       clear hcx c3 hceS hslt q0q hHs hx5 hBq hJq hRq hEq hGq hOq hxq
       generalize hQ0 : w4.heap.size = XB at hX5 hzx ⊢
       generalize (w4.alloc (.cells #[.int .i64 x0, .int .i64 x1, .int .i64 x2, .int .i64 x3, .slice HA hn hc2, .int .i64 x5, .bool x6] 39)) = w5 at hX5 hB5 hJ5 hR5 hE5 hxw5 hG5 hH5 ⊢
       clear h45 hQ0 hx4
       have q5 : w5.cell? ⟨JJ, 5, none⟩ = some (.int .i64 j5) := hJ5.cell 5
       have q6 : w5.cell? ⟨JJ, 6, none⟩ = some (.bool j6) := hJ5.cell 6
       have y5 : w5.cell? ⟨XB, 5, none⟩ = some (.int .i64 x5) := hX5.cell 5
       have y5f : w5.frozen? ⟨XB, 5, none⟩ = false := hX5.frozen 5
       have hs6 : Ext (fun b => b = XB) w5 (w5.setCell ⟨XB, 5, none⟩ (.int .i64 j5)) := Ext.set1 _ _ _ _
       have hX6 := hX5.set_ 5 (.int .i64 j5)
       have hs7 : Ext (fun b => b = XB) (w5.setCell ⟨XB, 5, none⟩ (.int .i64 j5)) ((w5.setCell ⟨XB, 5, none⟩ (.int .i64 j5)).setCell ⟨XB, 6, none⟩ (.bool j6)) := Ext.set1 _ _ _ _
       have hX7 := hX6.set_ 6 (.bool j6)
       go_upto_region 13 with (first | go_skip | go_guarded)
       have q6b : (w5.setCell ⟨XB, 5, none⟩ (.int .i64 j5)).cell? ⟨JJ, 6, none⟩ = some (.bool j6) := hs6.cell q6 (fun e => absurd (show JJ = XB from e) (by omega))
       have y6 : (w5.setCell ⟨XB, 5, none⟩ (.int .i64 j5)).cell? ⟨XB, 6, none⟩ = some (.bool x6) := hX6.cell 6
       have y6f : (w5.setCell ⟨XB, 5, none⟩ (.int .i64 j5)).frozen? ⟨XB, 6, none⟩ = false := hX6.frozen 6
       go_upto_region 14 with (first | go_skip | go_guarded)
       have h57 : Ext (fun b => b = XB) w5 ((w5.setCell ⟨XB, 5, none⟩ (.int .i64 j5)).setCell ⟨XB, 6, none⟩ (.bool j6)) := hs6.tr hs7
       have hB7 := hB5.ext h57 (fun e => absurd (show w.heap.size = XB from e) (by omega))
       have hJ7 := hJ5.ext h57 (fun e => absurd (show JJ = XB from e) (by omega))
       have hR7 := hR5.ext h57 (fun e => absurd (show (w.heap.size + 1 + 1) = XB from e) (by omega))
       have hE7 := hE5.ext h57 (fun e => absurd (show (w.heap.size + 1 + 1 + 1) = XB from e) (by omega))
       have hxw7 : Ext Nothing w ((w5.setCell ⟨XB, 5, none⟩ (.int .i64 j5)).setCell ⟨XB, 6, none⟩ (.bool j6)) := hxw5.trans h57 (fun b hb e => absurd (show b = XB from e) (by omega))
       have hX7 : Blk ((w5.setCell ⟨XB, 5, none⟩ (.int .i64 j5)).setCell ⟨XB, 6, none⟩ (.bool j6)) XB 39 #[.int .i64 x0, .int .i64 x1, .int .i64 x2, .int .i64 x3, .slice HA hn hc2, .int .i64 j5, .bool j6] := hX7
       clear q5 q6 y5 y5f q6b y6 y6f hs6 hs7 hX6 hX5 h57 hG5 hH5 hB5 hJ5 hR5 hE5 hxw5
       generalize ((w5.setCell ⟨XB, 5, none⟩ (.int .i64 j5)).setCell ⟨XB, 6, none⟩ (.bool j6)) = w7 at hX7 hB7 hJ7 hR7 hE7 hxw7 ⊢
       have hO7 := h.keep0 hxw7
       have hH7 : Sl w7 3 HA hn (xg.map GroupD.cells) := by obtain ⟨A9, n9, c9, e9, hs9, _, _⟩ := (hO7.t.grp _ hmT).sl; injection e9 with e1 e2 e3; subst e1; subst e2; exact hs9
       have hG7 : Sl w7 3 GA gn (jg.map GroupD.cells) := by obtain ⟨A9, n9, c9, e9, hs9, _, _⟩ := (hO7.j.grp _ hmJ).sl; injection e9 with e1 e2 e3; subst e1; subst e2; exact hs9
       generalize hsj : Fsm.sameJob ⟨x0, x1, x2, x3, xg, j5, j6⟩ ⟨j0, j1, j2, j3, jg, j5, j6⟩ = sj
       have HSJ := Lib.hid hsj
       clear hsj
       go_upto_region 15 with (first | go_skip | go_guarded | ((with_reducible refine isW ?_); refine wpList_load_blk rfl 39 _ rfl STJob XB rfl #[.int .i64 x0, .int .i64 x1, .int .i64 x2, .int .i64 x3, .slice HA hn hc2, .int .i64 j5, .bool j6] (show Blk _ _ 39 _ from hX7) rfl ?_) | ((with_reducible refine isW ?_); refine wpList_load_blk rfl 39 _ rfl STJob JJ rfl #[.int .i64 j0, .int .i64 j1, .int .i64 j2, .int .i64 j3, .slice GA gn gc, .int .i64 j5, .bool j6] (show Blk _ _ 39 _ from hJ7) rfl ?_) | (go_at_call 65; (with_reducible refine (refSameJob2 x0 x1 x2 x3 j0 j1 j2 j3 j5 j6 xg jg HA hn hc2 GA gn gc w7 hH7 hG7 hhn hgn).mono ?_); rintro e w4 ⟨rfl, hx4⟩; (rw [HSJ.out])))
       have hB4 := hB7.e0 hx4
       have hJ4 := hJ7.e0 hx4
       have hR4 := hR7.e0 hx4
       have hE4 := hE7.e0 hx4
       have hxw4 := hxw7.tr hx4
       clear hX7 hB7 hJ7 hR7 hE7 hO7 hH7 hG7 hxw7
       cases sj with
       | true =>
        have HF := Lib.hid (Fsm.rv_same (s := s.data) (c := c.d) HJA.out HDA.out HPG.out HSA.out HSJ.out)
        go_upto_region 16 with (first | go_skip | go_guarded)
        have hO4 := h.keep0 hxw4
        obtain ⟨gD2, _, hAD2, _, hgb, _, hce, hput⟩ := hO4.putD HDM.out
        have hgg : gD = gD2 := by have h7 : s.AD = some ⟨gD2, 0, none⟩ := hAD2; rw [HAD.out] at h7; injection h7 with h7; injection h7
        subst hgg
        clear hAD2
        have hO6 : OwnS base (w4.setCell ⟨gD, m * 4 + 2, none⟩ (.int .i64 3)) ({ s with deploys := s.deploys.set m ⟨d0, d1, 3, d3⟩ } : StoreV) := hput 2 (.int .i64 3) ⟨d0, d1, 3, d3⟩ (by decide) rfl
        have hs6 : Ext (fun b => b = gD) w4 (w4.setCell ⟨gD, m * 4 + 2, none⟩ (.int .i64 3)) := Ext.set1 _ _ _ _
        have c7 : w4.cell? ⟨w.heap.size, 7, none⟩ = some (.slice (some ⟨gD, 0, none⟩) s.nD s.cD) := (by rw [← HAD.out]; exact hB4.cell 7)
        have kd2 : w4.cell? ⟨gD, m * 4 + 2, none⟩ = some (.int .i64 d2) := hce 2 _ rfl
        have fd2 : w4.frozen? ⟨gD, m * 4 + 2, none⟩ = false := hgb.frozen _
        have hB6 : Blk (w4.setCell ⟨gD, m * 4 + 2, none⟩ (.int .i64 3)) w.heap.size 30 ({ s with deploys := s.deploys.set m ⟨d0, d1, 3, d3⟩ } : StoreV).arr := hB4.ext hs6 (fun e => absurd (show w.heap.size = gD from e) (by omega))
        have hJ6 := hJ4.ext hs6 (fun e => absurd (show JJ = gD from e) (by omega))
        have hR6 := hR4.ext hs6 (fun e => absurd (show (w.heap.size + 1 + 1) = gD from e) (by omega))
        have hE6 := hE4.ext hs6 (fun e => absurd (show (w.heap.size + 1 + 1 + 1) = gD from e) (by omega))
        have hx6 : Ext (RowB base w) w (w4.setCell ⟨gD, m * 4 + 2, none⟩ (.int .i64 3)) := Ext.setRow (hxw4.mono (fun _ _ e => e.elim)) (RowB.of_blk hgb (by decide) hgD1) _
        go_upto_region 17 with (first | go_skip | go_guarded)
        clear c7 kd2 fd2 hput hce hgb hs6 hB4 hJ4 hR4 hE4 hO4 hxw4
        generalize (w4.setCell ⟨gD, m * 4 + 2, none⟩ (.int .i64 3)) = w6 at hO6 hB6 hJ6 hR6 hE6 hx6 ⊢
        have hb6 : base ≤ w6.heap.size := by have := hx6.size; omega
        have HTD := Lib.hid (Fsm.turn1_set (f := fun d : DepD => { d with state := 3 }) HDM.out HMP.out HMF.out)
        have hJE : ({ s with deploys := s.deploys.set m ⟨d0, d1, 3, d3⟩ } : StoreV).jobs.length ≤ 67108864 := by show s.jobs.length ≤ _; omega
        have hEE : ({ s with deploys := s.deploys.set m ⟨d0, d1, 3, d3⟩ } : StoreV).evals.length < 67108862 := by show s.evals.length < _; omega
        refine zH (S := fun q => q = (w.heap.size + 1 + 1) ∨ q = (w.heap.size + 1 + 1 + 1)) (by kernel_rfl) (fun Wd hd hd0 => ?_)
        refine zT 0 (.agg ({ s with deploys := s.deploys.set m ⟨d0, d1, 3, d3⟩ } : StoreV).arr) rfl (by kernel_rfl) (by rfl) hd (fun _ _ _ h => h) ?_ ?_
        ·intro W' hS'
         exact run_load_blk rfl STStore (by go_simp) (hB6.ext hS' (by omega)) rfl
        refine zT 1 (.pointer (some ⟨JJ, 0, none⟩)) rfl (by kernel_rfl) (by rfl) hd (fun _ _ _ h => h) ?_ ?_
        ·intro W' hS'
         go_simp
        refine zT 2 (.int .i64 j0) rfl (by kernel_rfl) (by rfl) hd (fun _ _ _ h => h) ?_ ?_
        ·intro W' hS'
         have z0 : W'.cell? ⟨JJ, 0, none⟩ = some (.int .i64 j0) := (hJ6.ext hS' (by omega)).cell 0
         go_simp
        refine zT 4 (.pointer (some ⟨JJ, 5, none⟩)) rfl (by kernel_rfl) (by rfl) hd (fun _ _ _ h => h) ?_ ?_
        ·intro W' hS'
         go_simp
        refine zT 5 (.int .i64 j5) rfl (by kernel_rfl) (by rfl) hd (fun _ _ _ h => h) ?_ ?_
        ·intro W' hS'
         have z0 : W'.cell? ⟨JJ, 5, none⟩ = some (.int .i64 j5) := (hJ6.ext hS' (by omega)).cell 5
         go_simp
        refine zT 6 (.agg (resArr 0 j5)) rfl (by kernel_rfl) (by rfl) hd (fun _ _ _ h => h) ?_ ?_
        ·intro W' hS'
         go_simp
        simp only [Act.put, zA, zB, zC, zD, zE, zF]
        refine zO 3 (by kernel_rfl) ?_
        refine wpOp_call (f := 54) (args := #[.agg ({ s with deploys := s.deploys.set m ⟨d0, d1, 3, d3⟩ } : StoreV).arr, .int .i64 j0]) rfl (by rfl) (by go_simp) ((refEval base ({ s with deploys := s.deploys.set m ⟨d0, d1, 3, d3⟩ } : StoreV) j0 Wd (hO6.keep0 hd0) (by have := hd0.size; omega) hJE hEE).mono ?_)
        rintro e w7 ⟨s7, rfl, hO7, hD7, _, hx7⟩
        have hd1 := hd.trans hx7 (fun _ _ e => e.elim)
        have hd01 := hd0.tr hx7
        have hR7 := hR6.e0 hd01
        have hE7 := hE6.e0 hd01
        refine ⟨_, rfl, hd1, ?_⟩
        simp only [Act.put, zA, zB, zC, zD, zE, zF]
        refine zO 7 (by kernel_rfl) ?_
        refine wpOp_store (p := (w.heap.size + 1 + 1)) (cs := s7.arr) rfl (by rfl) rfl (by go_simp) (by go_simp) hR7 rfl STStore rfl rfl (fun w2 hR2 hx2 => ?_)
        have hd2 := hd1.trans hx2 (fun q hq e => .inl e)
        refine ⟨hd2, ?_⟩
        simp only [Act.put, zA, zB, zC, zD, zE, zF]
        refine zO 8 (by kernel_rfl) ?_
        refine wpOp_store (p := (w.heap.size + 1 + 1 + 1)) (cs := resArr 0 j5) rfl (by rfl) rfl (by go_simp) (by go_simp) (hE7.ext hx2 (fun e => absurd (show (w.heap.size + 1 + 1 + 1) = (w.heap.size + 1 + 1) from e) (by omega))) rfl STResult rfl rfl (fun w3 hE3 hx3' => ?_)
        have hx3 := hd2.trans hx3' (fun q hq e => .inr e)
        have hR3 := hR2.ext hx3' (fun e => absurd (show (w.heap.size + 1 + 1) = (w.heap.size + 1 + 1 + 1) from e) (by omega))
        refine ⟨hx3, wpAnyH_done (by kernel_rfl) ?_ _⟩
        simp only [Act.put, zA, zB, zC, zD, zE, zF]
        go_wp2
        have hx73 : Ext (fun q => q = (w.heap.size + 1 + 1) ∨ q = (w.heap.size + 1 + 1 + 1)) w7 w3 := (hx2.mono (fun _ _ e => .inl e)).trans hx3' (fun _ _ e => .inr e)
        exact bodyPost_ret (results_cell2 rfl STStore STResult rfl rfl hR3 rfl hE3 rfl) rfl ⟨s7, ⟨0, j5, []⟩, rfl, hO7.keep hx73 (fun q e => by rcases e with rfl | rfl; exact ⟨_, _, hR7, by decide⟩; exact ⟨_, _, hE7, by decide⟩), by rw [HF.out, hD7]; exact congrArg (fun z => (Fsm.eval ({ s.data with deploys := z } : StoreD) j0, (⟨0, j5, []⟩ : ResultD))) HTD.out, rfl, hx6.trans hx3 (fun b hb e => by omega)⟩
       | false =>
        have j5w : w4.cell? ⟨JJ, 5, none⟩ = some (.int .i64 j5) := hJ4.cell 5
        cases v4 : decide (1099511627776 ≤ j5) with
        | true =>
         have HF := Lib.hid (show Fsm.revert s.data c.d = (s.data, ⟨33, 0, []⟩) from Fsm.rv_big HJA.out HDA.out HPG.out HSA.out HSJ.out (by simpa using v4))
         go_upto_region 19 with (first | go_skip | go_guarded)
         refine zH (S := fun q => q = (w.heap.size + 1 + 1) ∨ q = (w.heap.size + 1 + 1 + 1)) (by kernel_rfl) (fun Wd hd hd0 => ?_)
         refine zT 0 (.agg s.arr) rfl (by kernel_rfl) (by rfl) hd (fun _ _ _ h => h) ?_ ?_
         ·intro W' hS'
          exact run_load_blk rfl STStore (by go_simp) (hB4.ext hS' (by omega)) rfl
         simp only [Act.put, zA, zB, zC, zD, zE, zF]
         refine zO 1 (by kernel_rfl) ?_
         refine wpOp_call (f := 16) (args := #[.int .i64 33]) rfl (by rfl) (by go_simp) ((refNo 33 Wd).mono ?_)
         rintro e wn ⟨rfl, hxn⟩
         have hd1 := hd.trans hxn (fun _ _ e => e.elim)
         have hd01 := hd0.tr hxn
         refine ⟨_, rfl, hd1, ?_⟩
         simp only [Act.put, zA, zB, zC, zD, zE, zF]
         refine zO 2 (by kernel_rfl) ?_
         refine wpOp_store (p := (w.heap.size + 1 + 1)) (cs := s.arr) rfl (by rfl) rfl (by go_simp) (by go_simp) (hR4.e0 hd01) rfl STStore rfl rfl (fun w2 hR2 hx2 => ?_)
         have hd2 := hd1.trans hx2 (fun q hq e => .inl e)
         refine ⟨hd2, ?_⟩
         simp only [Act.put, zA, zB, zC, zD, zE, zF]
         refine zO 3 (by kernel_rfl) ?_
         refine wpOp_store (p := (w.heap.size + 1 + 1 + 1)) (cs := resArr 33 0) rfl (by rfl) rfl (by go_simp) (by go_simp) ((hE4.e0 hd01).ext hx2 (fun e => absurd (show (w.heap.size + 1 + 1 + 1) = (w.heap.size + 1 + 1) from e) (by omega))) rfl STResult rfl rfl (fun w3 hE3 hx3' => ?_)
         have hx3 := hd2.trans hx3' (fun q hq e => .inr e)
         have hR3 := hR2.ext hx3' (fun e => absurd (show (w.heap.size + 1 + 1) = (w.heap.size + 1 + 1 + 1) from e) (by omega))
         refine ⟨hx3, wpAnyH_done (by kernel_rfl) ?_ _⟩
         simp only [Act.put, zA, zB, zC, zD, zE, zF]
         go_wp2
         have hxx : Ext Nothing w w3 := hxw4.trans hx3 (fun b hb e => by omega)
         exact bodyPost_ret (results_cell2 rfl STStore STResult rfl rfl hR3 rfl hE3 rfl) rfl ⟨s, ⟨33, 0, []⟩, rfl, h.keep0 hxx, HF.out, rfl, hxx.mono (fun _ _ e => e.elim)⟩
        | false =>
         have HF := Lib.hid (Fsm.rv_go (s := s.data) (c := c.d) HJA.out HDA.out HPG.out HSA.out HSJ.out (show ¬ 1099511627776 ≤ j5 by simpa using v4))
         go_upto_region 20 with (first | go_skip | go_guarded)
         have hO4 := h.keep0 hxw4
         obtain ⟨gD2, _, hAD2, _, hgb, _, hce, hput⟩ := hO4.putD HDM.out
         have hgg : gD = gD2 := by have h7 : s.AD = some ⟨gD2, 0, none⟩ := hAD2; rw [HAD.out] at h7; injection h7 with h7; injection h7
         subst hgg
         clear hAD2
         have hO6 : OwnS base (w4.setCell ⟨gD, m * 4 + 2, none⟩ (.int .i64 3)) ({ s with deploys := s.deploys.set m ⟨d0, d1, 3, d3⟩ } : StoreV) := hput 2 (.int .i64 3) ⟨d0, d1, 3, d3⟩ (by decide) rfl
         have hs6 : Ext (fun b => b = gD) w4 (w4.setCell ⟨gD, m * 4 + 2, none⟩ (.int .i64 3)) := Ext.set1 _ _ _ _
         have c7 : w4.cell? ⟨w.heap.size, 7, none⟩ = some (.slice (some ⟨gD, 0, none⟩) s.nD s.cD) := (by rw [← HAD.out]; exact hB4.cell 7)
         have kd2 : w4.cell? ⟨gD, m * 4 + 2, none⟩ = some (.int .i64 d2) := hce 2 _ rfl
         have fd2 : w4.frozen? ⟨gD, m * 4 + 2, none⟩ = false := hgb.frozen _
         have hB6 : Blk (w4.setCell ⟨gD, m * 4 + 2, none⟩ (.int .i64 3)) w.heap.size 30 ({ s with deploys := s.deploys.set m ⟨d0, d1, 3, d3⟩ } : StoreV).arr := hB4.ext hs6 (fun e => absurd (show w.heap.size = gD from e) (by omega))
         have hJ6 := hJ4.ext hs6 (fun e => absurd (show JJ = gD from e) (by omega))
         have hR6 := hR4.ext hs6 (fun e => absurd (show (w.heap.size + 1 + 1) = gD from e) (by omega))
         have hE6 := hE4.ext hs6 (fun e => absurd (show (w.heap.size + 1 + 1 + 1) = gD from e) (by omega))
         have hx6 : Ext (RowB base w) w (w4.setCell ⟨gD, m * 4 + 2, none⟩ (.int .i64 3)) := Ext.setRow (hxw4.mono (fun _ _ e => e.elim)) (RowB.of_blk hgb (by decide) hgD1) _
         go_upto_region 21 with (first | go_skip | go_guarded)
         clear c7 kd2 fd2 hput hce hgb hs6 hB4 hJ4 hR4 hE4 hO4 hxw4
         generalize (w4.setCell ⟨gD, m * 4 + 2, none⟩ (.int .i64 3)) = w6 at hO6 hB6 hJ6 hR6 hE6 hx6 ⊢
         have hb6 : base ≤ w6.heap.size := by have := hx6.size; omega
         have HTD := Lib.hid (Fsm.turn1_set (f := fun d : DepD => { d with state := 3 }) HDM.out HMP.out HMF.out)
         clear j5w
         obtain ⟨hkl, bT, oT, hAT, hceT0⟩ := hO6.slT.get (Ext.refl Nothing w6) (show k < s.nS from hkn)
         have hceT : ∀ j u, (#[.int .i64 x0, .int .i64 x1, .int .i64 x2, .int .i64 x3, .slice HA hn hc2, .int .i64 x5, .bool x6] : Array Value).toList[j]? = some u → w6.cell? ⟨bT, oT + k * 7 + j, none⟩ = some u := by have e9 : ({ s with deploys := s.deploys.set m ⟨d0, d1, 3, d3⟩ } : StoreV).stable[k]? = some (⟨x0, x1, x2, x3, xg, x5, x6⟩, Value.slice HA hn hc2) := HXK.out; rw [(List.getElem?_eq_some_iff.1 e9).2] at hceT0; exact hceT0
         have HAT := Lib.hid (show s.AS = some ⟨bT, oT, none⟩ from hAT)
         clear hceT0 hAT hkl
         have t3 : w6.cell? ⟨w.heap.size, 3, none⟩ = some (.slice (some ⟨bT, oT, none⟩) s.nS s.cS) := (by rw [← HAT.out]; exact hB6.cell 3)
         go_upto_region 22 with (first | go_skip | go_guarded | ((with_reducible refine isW ?_); refine wpList_load_at rfl 39 _ rfl STJob bT (oT + k * 7) rfl #[.int .i64 x0, .int .i64 x1, .int .i64 x2, .int .i64 x3, .slice HA hn hc2, .int .i64 x5, .bool x6] hceT rfl ?_))
         clear t3 hceT
         have hx8 : Ext Nothing w6 (w6.alloc (.cells #[.int .i64 x0, .int .i64 x1, .int .i64 x2, .int .i64 x3, .slice HA hn hc2, .int .i64 x5, .bool x6] 39)) := Ext.auto
         have hX8 : Blk (w6.alloc (.cells #[.int .i64 x0, .int .i64 x1, .int .i64 x2, .int .i64 x3, .slice HA hn hc2, .int .i64 x5, .bool x6] 39)) w6.heap.size 39 #[.int .i64 x0, .int .i64 x1, .int .i64 x2, .int .i64 x3, .slice HA hn hc2, .int .i64 x5, .bool x6] := Blk.new _ _ _
         have hB8 := hB6.e0 hx8
         have hJ8 := hJ6.e0 hx8
         have hR8 := hR6.e0 hx8
         have hE8 := hE6.e0 hx8
         have hO8 := hO6.keep0 hx8
         have hx8w := hx6.trans hx8 (fun _ _ e => e.elim)
         have hzX : JJ < w6.heap.size := hJ6.lt
         clear hB6 hJ6 hR6 hE6 hx6
         generalize hQ9 : w6.heap.size = XC at hX8 hzX hb6 ⊢
         have hXC : w6.heap.size ≤ XC := Nat.le_of_eq hQ9
         generalize (w6.alloc (.cells #[.int .i64 x0, .int .i64 x1, .int .i64 x2, .int .i64 x3, .slice HA hn hc2, .int .i64 x5, .bool x6] 39)) = w8 at hX8 hB8 hJ8 hR8 hE8 hO8 hx8w hx8 ⊢
         clear hQ9
         have j5w : w8.cell? ⟨JJ, 5, none⟩ = some (.int .i64 j5) := hJ8.cell 5
         have z5 : w8.cell? ⟨XC, 5, none⟩ = some (.int .i64 x5) := hX8.cell 5
         have z5f : w8.frozen? ⟨XC, 5, none⟩ = false := hX8.frozen 5
         go_upto_region 23 with (first | go_skip | go_guarded)
         clear j5w z5 z5f
         have hsA : Ext (fun b => b = XC) w8 (w8.setCell ⟨XC, 5, none⟩ (.int .i64 (wrap64 (j5 + 1)))) := Ext.set1 _ _ _ _
         have hXA := hX8.set_ 5 (.int .i64 (wrap64 (j5 + 1)))
         have z6 : (w8.setCell ⟨XC, 5, none⟩ (.int .i64 (wrap64 (j5 + 1)))).cell? ⟨XC, 6, none⟩ = some (.bool x6) := hXA.cell 6
         have z6f : (w8.setCell ⟨XC, 5, none⟩ (.int .i64 (wrap64 (j5 + 1)))).frozen? ⟨XC, 6, none⟩ = false := hXA.frozen 6
         have hsB : Ext (fun b => b = XC) (w8.setCell ⟨XC, 5, none⟩ (.int .i64 (wrap64 (j5 + 1)))) ((w8.setCell ⟨XC, 5, none⟩ (.int .i64 (wrap64 (j5 + 1)))).setCell ⟨XC, 6, none⟩ (.bool false)) := Ext.set1 _ _ _ _
         have hXB : Blk ((w8.setCell ⟨XC, 5, none⟩ (.int .i64 (wrap64 (j5 + 1)))).setCell ⟨XC, 6, none⟩ (.bool false)) XC 39 #[.int .i64 x0, .int .i64 x1, .int .i64 x2, .int .i64 x3, .slice HA hn hc2, .int .i64 (wrap64 (j5 + 1)), .bool false] := hXA.set_ 6 (.bool false)
         have hsAB := hsA.tr hsB
         go_upto_region 24 with (first | go_skip | go_guarded)
         clear z6 z6f hsA hsB hXA
         have hB9 := hB8.ext hsAB (fun e => absurd (show w.heap.size = XC from e) (by omega))
         have hR9 := hR8.ext hsAB (fun e => absurd (show (w.heap.size + 1 + 1) = XC from e) (by omega))
         have hE9 := hE8.ext hsAB (fun e => absurd (show (w.heap.size + 1 + 1 + 1) = XC from e) (by omega))
         have hx6 : Ext (RowB base w) w ((w8.setCell ⟨XC, 5, none⟩ (.int .i64 (wrap64 (j5 + 1)))).setCell ⟨XC, 6, none⟩ (.bool false)) := hx8w.trans hsAB (fun b hb e => absurd (show b = XC from e) (by omega))
         have hO9 := hO6.keep0 (hx8.trans hsAB (fun b hb e => absurd (show b = XC from e) (by omega)))
         clear hB8 hR8 hE8 hO8 hx8w hJ8 hX8 hsAB hO6 hx8 hXC hb6
         generalize ((w8.setCell ⟨XC, 5, none⟩ (.int .i64 (wrap64 (j5 + 1)))).setCell ⟨XC, 6, none⟩ (.bool false)) = w6 at hB9 hR9 hE9 hx6 hO9 hXB ⊢
         have hH9 : Sl w6 3 HA hn (xg.map GroupD.cells) := by obtain ⟨A9, n9, c9, e9, hs9, _, _⟩ := (hO9.t.grp _ hmT).sl; injection e9 with e1 e2 e3; subst e1; subst e2; exact hs9
         have hb9 : base ≤ w6.heap.size := by have := hx6.size; omega
         have gJ1 : ({ s with deploys := s.deploys.set m ⟨d0, d1, 3, d3⟩ } : StoreV).jobs.length ≤ 1048575 := hJ
         have gA1 : ({ s with deploys := s.deploys.set m ⟨d0, d1, 3, d3⟩ } : StoreV).allocs.length ≤ 1048576 := hA'
         have gD1 : ({ s with deploys := s.deploys.set m ⟨d0, d1, 3, d3⟩ } : StoreV).deploys.length ≤ 1048575 := by show (s.deploys.set m _).length ≤ _; rw [List.length_set]; exact hDl
         have gS1 : ({ s with deploys := s.deploys.set m ⟨d0, d1, 3, d3⟩ } : StoreV).stable.length ≤ 33554432 := hS
         have gE1 : ({ s with deploys := s.deploys.set m ⟨d0, d1, 3, d3⟩ } : StoreV).evals.length ≤ 33554432 := hE
         refine zH (S := fun q => q = (w.heap.size + 1 + 1) ∨ q = (w.heap.size + 1 + 1 + 1)) (by kernel_rfl) (fun Wd hd hd0 => ?_)
         refine zT 0 (.agg ({ s with deploys := s.deploys.set m ⟨d0, d1, 3, d3⟩ } : StoreV).arr) rfl (by kernel_rfl) (by rfl) hd (fun _ _ _ h => h) ?_ ?_
         ·intro W' hS'
          exact run_load_blk rfl STStore (by go_simp) (hB9.ext hS' (by omega)) rfl
         refine zT 1 (.agg #[.int .i64 x0, .int .i64 x1, .int .i64 x2, .int .i64 x3, .slice HA hn hc2, .int .i64 (wrap64 (j5 + 1)), .bool false]) rfl (by kernel_rfl) (by rfl) hd (fun _ _ _ h => h) ?_ ?_
         ·intro W' hS'
          exact run_load_blk rfl STJob (by go_simp) (hXB.ext hS' (by omega)) rfl
         refine zT 3 (.pointer (some ⟨XC, 5, none⟩)) rfl (by kernel_rfl) (by rfl) hd (fun _ _ _ h => h) ?_ ?_
         ·intro W' hS'
          go_simp
         refine zT 4 (.int .i64 (wrap64 (j5 + 1))) rfl (by kernel_rfl) (by rfl) hd (fun _ _ _ h => h) ?_ ?_
         ·intro W' hS'
          have z0 : W'.cell? ⟨XC, 5, none⟩ = some (.int .i64 (wrap64 (j5 + 1))) := (hXB.ext hS' (by omega)).cell 5
          go_simp
         refine zT 5 (.agg (resArr 0 (wrap64 (j5 + 1)))) rfl (by kernel_rfl) (by rfl) hd (fun _ _ _ h => h) ?_ ?_
         ·intro W' hS'
          go_simp
         simp only [Act.put, zA, zB, zC, zD, zE, zF]
         refine zO 2 (by kernel_rfl) ?_
         refine wpOp_call (f := 52) (args := #[.agg ({ s with deploys := s.deploys.set m ⟨d0, d1, 3, d3⟩ } : StoreV).arr, .agg #[.int .i64 x0, .int .i64 x1, .int .i64 x2, .int .i64 x3, .slice HA hn hc2, .int .i64 (wrap64 (j5 + 1)), .bool false]]) rfl (by rfl) (by go_simp) ((refBegins base ({ s with deploys := s.deploys.set m ⟨d0, d1, 3, d3⟩ } : StoreV) x0 x1 x2 x3 xg (wrap64 (j5 + 1)) false HA hn hc2 Wd (hO9.keep0 hd0) (by have := hd0.size; omega) gJ1 gA1 gD1 gS1 gE1 (hH9.ext0 hd0) hhn).mono ?_)
         rintro e w7 ⟨s7, rfl, hO7, hD7, hx7⟩
         have hd1 := hd.trans hx7 (fun _ _ e => e.elim)
         have hd01 := hd0.tr hx7
         have hR7 := hR9.e0 hd01
         have hE7 := hE9.e0 hd01
         refine ⟨_, rfl, hd1, ?_⟩
         simp only [Act.put, zA, zB, zC, zD, zE, zF]
         refine zO 6 (by kernel_rfl) ?_
         refine wpOp_store (p := (w.heap.size + 1 + 1)) (cs := s7.arr) rfl (by rfl) rfl (by go_simp) (by go_simp) hR7 rfl STStore rfl rfl (fun w2 hR2 hx2 => ?_)
         have hd2 := hd1.trans hx2 (fun q hq e => .inl e)
         refine ⟨hd2, ?_⟩
         simp only [Act.put, zA, zB, zC, zD, zE, zF]
         refine zO 7 (by kernel_rfl) ?_
         refine wpOp_store (p := (w.heap.size + 1 + 1 + 1)) (cs := resArr 0 (wrap64 (j5 + 1))) rfl (by rfl) rfl (by go_simp) (by go_simp) (hE7.ext hx2 (fun e => absurd (show (w.heap.size + 1 + 1 + 1) = (w.heap.size + 1 + 1) from e) (by omega))) rfl STResult rfl rfl (fun w3 hE3 hx3' => ?_)
         have hx3 := hd2.trans hx3' (fun q hq e => .inr e)
         have hR3 := hR2.ext hx3' (fun e => absurd (show (w.heap.size + 1 + 1) = (w.heap.size + 1 + 1 + 1) from e) (by omega))
         refine ⟨hx3, wpAnyH_done (by kernel_rfl) ?_ _⟩
         simp only [Act.put, zA, zB, zC, zD, zE, zF]
         go_wp2
         have hx73 : Ext (fun q => q = (w.heap.size + 1 + 1) ∨ q = (w.heap.size + 1 + 1 + 1)) w7 w3 := (hx2.mono (fun _ _ e => .inl e)).trans hx3' (fun _ _ e => .inr e)
         exact bodyPost_ret (results_cell2 rfl STStore STResult rfl rfl hR3 rfl hE3 rfl) rfl ⟨s7, ⟨0, wrap64 (j5 + 1), []⟩, rfl, hO7.keep hx73 (fun q e => by rcases e with rfl | rfl; exact ⟨_, _, hR7, by decide⟩; exact ⟨_, _, hE7, by decide⟩), by rw [HF.out, hD7]; exact congrArg (fun z => (Fsm.begins ({ s.data with deploys := z } : StoreD) ⟨x0, x1, x2, x3, xg, wrap64 (j5 + 1), false⟩, (⟨0, wrap64 (j5 + 1), []⟩ : ResultD))) HTD.out, rfl, hx6.trans hx3 (fun b hb e => by omega)⟩
end Go.Proofs.YtlpfcmnnmdhaoaaGreat
