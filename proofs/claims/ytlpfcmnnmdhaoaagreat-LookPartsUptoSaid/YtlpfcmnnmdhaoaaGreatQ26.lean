/- Parts of the proof: RefPlan -/
import Derived.Test.YtlpfcmnnmdhaoaaGreatQ23
import Derived.Test.YtlpfcmnnmdhaoaaGreatQ12
namespace Go.Proofs.YtlpfcmnnmdhaoaaGreat
set_option linter.unusedVariables false
set_option linter.unusedSimpArgs false
set_option linter.unusedSectionVars false
open Go.RowKit
theorem STPlanR : StructT Tryz.prog 47 6 := .of (by kernel_rfl)
def boolOf : Value → Bool
 | .bool b => b
 | _ => false
namespace Fsm
def planStep (j : JobD) (l : List AllocD) (z : StoreD × Bool) (n : Int) : StoreD × Bool := ((places z.1 j n l).1, z.2 && (places z.1 j n l).2)
theorem filter_le {α : Type} {p q : α → Bool} {l : List α} (h : ∀ x ∈ l, q x = true → p x = true) : (l.filter q).length ≤ (l.filter p).length := by
 rw [← List.countP_eq_length_filter, ← List.countP_eq_length_filter]
 exact List.countP_mono_left h
theorem filter_lt {α : Type} {p q : α → Bool} {l : List α} (h : ∀ x ∈ l, q x = true → p x = true) {x : α} (hx : x ∈ l) (hp : p x = true) (hq : q x = false) : (l.filter q).length < (l.filter p).length := by
 obtain ⟨s, t, rfl⟩ := List.append_of_mem hx
 have h1 := filter_le (p := p) (q := q) (l := s) (fun y hy => h y (by simp [hy]))
 have h2 := filter_le (p := p) (q := q) (l := t) (fun y hy => h y (by simp [hy]))
 simp only [List.filter_append, List.filter_cons, hp, hq, if_true, Bool.false_eq_true, if_false, List.length_append, List.length_cons]
 omega
def left (l : List AllocD) (first : Bool) (last : Int) : Nat := (l.filter (fun x => first || decide (last < x.node))).length
theorem left_lt {l : List AllocD} {first : Bool} {last : Int} (h : (nextF first last l).2 = true) : left l false (nextF first last l).1 < left l first last := by
 obtain ⟨⟨x, hx, h1, h2⟩, _⟩ := (nextF_spec first last l).yes h
 refine filter_lt (x := x) (fun y hy hq => ?_) hx h2 (by simp; omega)
 cases first with
 | true => rfl
 | false => simp at hq h2 ⊢; omega
theorem plan_noJ {s : StoreD} {c : CmdD} (hj : jobAt s c.plan.job = none) : plan s c = (s, ⟨34, 0, []⟩) := by
 unfold plan; simp only [hj]; rfl
theorem plan_noE {s : StoreD} {c : CmdD} (he : evalAt s c.plan.job = none) : plan s c = (s, ⟨34, 0, []⟩) := by
 unfold plan; simp only [he]; cases jobAt s c.plan.job <;> rfl
theorem plan_bad {s : StoreD} {c : CmdD} {j : JobD} {e : EvalD} (hj : jobAt s c.plan.job = some j) (he : evalAt s c.plan.job = some e) (hb : (!(j.ver == c.plan.ver) || !(e.state == 1) || !(e.index == c.plan.index)) = true) : plan s c = (s, ⟨34, 0, []⟩) := by
 unfold plan; simp only [hj, he]; rw [if_pos hb]; rfl
theorem plan_go {s : StoreD} {c : CmdD} {j : JobD} {e : EvalD} (hj : jobAt s c.plan.job = some j) (he : evalAt s c.plan.job = some e) (hb : (!(j.ver == c.plan.ver) || !(e.state == 1) || !(e.index == c.plan.index)) = false) {z : StoreD × Bool} (hz : (nodesUp c.plan.places).foldl (planStep j c.plan.places) (({ s with allocs := stops c.plan.job s.allocs c.plan.stops } : StoreD), true) = z) :
  plan s c = if !z.2 then ({ z.1 with evals := turn1 (fun e => e.job == c.plan.job) (fun e => { e with index := s.index }) z.1.evals }, ⟨35, s.index, []⟩) else ({ z.1 with evals := turn1 (fun e => e.job == c.plan.job) (fun e => { e with state := if c.plan.blocked then 2 else 3 }) z.1.evals }, ⟨0, s.index, []⟩) := by
 unfold plan; simp only [hj, he]; rw [if_neg (by rw [hb]; exact Bool.false_ne_true)]
 subst hz
 rfl
end Fsm
set_option maxRecDepth 20000 in
set_option maxHeartbeats 16000000 in
theorem refPlan (base : Nat) (s : StoreV) (c : CmdV) (w : World) (h : OwnS base w s) (hc : CmdI base w c) (hb : base ≤ w.heap.size) (hJ : s.jobs.length ≤ 1048576) (hN : s.nodes.length ≤ 1048576) (hA : s.allocs.length ≤ 1048576) (hE : s.evals.length ≤ 33554432) :
  Calls Tryz.prog 34 #[.agg s.arr, .agg c.arr] w fun e w' => ∃ s' r, e = .returned (.tuple #[.agg s'.arr, .agg (resArr r.code r.value)]) ∧ OwnS base w' s' ∧ Fsm.plan s.data c.d = (s'.data, r) ∧ r.allocs = [] ∧ Ext (RowB base w) w w' := by
 obtain ⟨hxW, hBW, hCW, hRW, hEW⟩ := enterW w s.arr c.arr #[.int .i64 0, .int .i64 0, .slice none 0 0, .slice none 0 0, .slice none 0 0, .slice none 0 0, .slice none 0 0, .slice none 0 0, .slice none 0 0] #[.int .i64 0, .int .i64 0, .slice none 0 0]
 go_enter Tryz.func34, Tryz.ntmps34
 go_upto_region 1 with fail
 generalize ((((w.alloc (.cells s.arr 30)).alloc (.cells c.arr 51)).alloc (.cells #[.int .i64 0, .int .i64 0, .slice none 0 0, .slice none 0 0, .slice none 0 0, .slice none 0 0, .slice none 0 0, .slice none 0 0, .slice none 0 0] 30)).alloc (.cells #[.int .i64 0, .int .i64 0, .slice none 0 0] 34)) = W at hxW hBW hCW hRW hEW ⊢
 have hzW : w.heap.size + 1 + 1 + 1 < W.heap.size := hEW.lt
 have hcp : ∀ j u, c.parr.toList[j]? = some u → W.cell? ⟨w.heap.size + 1, 19 + j, none⟩ = some u := fun j u hu => by rw [hCW.cell]; exact c.pcell j u hu
 have hPp : Blk (W.alloc (.cells c.parr 47)) W.heap.size 47 c.parr := Blk.new _ _ _
 have hxq : Ext Nothing W (W.alloc (.cells c.parr 47)) := Ext.auto
 have hBp := hBW.e0 hxq
 have hRp := hRW.e0 hxq
 have hEp := hEW.e0 hxq
 have hxp := hxW.tr hxq
 go_upto_region 2 with (first | go_skip | go_guarded | ((with_reducible refine isW ?_); refine wpList_load_at rfl 47 _ rfl STPlanR (w.heap.size + 1) 19 rfl c.parr hcp rfl ?_))
 generalize hPP : W.heap.size = P at hPp hzW ⊢
 generalize (W.alloc (.cells c.parr 47)) = wp at hPp hBp hRp hEp hxp ⊢
 clear hcp hxq hCW hBW hRW hEW hxW hPP
 have hnJ : s.nJ ≤ 67108864 := by have := h.jl; omega
 have hnE : s.nE ≤ 67108864 := by have := h.el; omega
 have hOp := h.keep0 hxp
 have hslj : Sl wp 7 s.AJ s.nJ (s.jobs.map JobV.cells) := hOp.slJ
 have hsle : Sl wp 4 s.AE s.nE (s.evals.map EvalD.cells) := hOp.slE
 have p0p : wp.cell? ⟨P, 0, none⟩ = some (.int .i64 c.pj) := hPp.cell 0
 rcases idx_cases (fun x : EvalD => x.job == c.pj) s.evals with ⟨hk, hkf, _⟩ | ⟨k, ev, hk, hek, hkp, hkf, hkfirst⟩
 ·have HK := Lib.hid hk
  have HF := Lib.hid (show Fsm.plan s.data c.d = (s.data, ⟨34, 0, []⟩) from Fsm.plan_noE hkf)
  clear hk hkf
  rcases idx_cases (fun x : JobV => x.1.id == c.pj) s.jobs with ⟨hi, _, _⟩ | ⟨i, x, hi, _, _, _, _⟩
  ·have HI := Lib.hid hi
   clear hi
   go_upto_region 4 with (first | go_skip | go_guarded | ((with_reducible refine isW ?_); refine wpList_load_blk rfl 30 _ rfl STStore w.heap.size rfl s.arr (show Blk _ _ 30 _ from hBp) rfl ?_) | ((with_reducible refine isW ?_); refine wpList_load_blk rfl 30 _ rfl STStore w.heap.size rfl s.arr (show Blk _ _ 30 _ from hB1) rfl ?_) | (go_at_call 51; (with_reducible refine (refAtJob s.AJ s.nJ s.cJ s.jobs c.pj wp hslj hnJ _ _ _ _ _ _ _ _).mono ?_); rintro e w1 ⟨rfl, hx1⟩; (rw [HI.out]); have p0 : w1.cell? ⟨P, 0, none⟩ = some (.int .i64 c.pj) := (hPp.e0 hx1).cell 0; have hB1 := hBp.e0 hx1) | (go_at_call 62; (with_reducible refine (refAtEval s.AE s.nE s.cE s.evals c.pj w1 (hsle.ext0 hx1) hnE _ _ _ _ _ _ _ _).mono ?_); rintro e w2 ⟨rfl, hx2⟩; (rw [HK.out])))
   go_quiet (fail)
   have hdq := (Ext.refl Nothing w2).drewN nq
   generalize w2.drewN nq = wq at hdq ⊢
   go_upto_region 5 with (first | go_skip | go_guarded)
   have hBa := (hB1.e0 hx2).e0 hdq
   have hRa := ((hRp.e0 hx1).e0 hx2).e0 hdq
   have hEa := ((hEp.e0 hx1).e0 hx2).e0 hdq
   have hxa := ((hxp.tr hx1).tr hx2).tr hdq
   refine zH (S := fun q => q = (w.heap.size + 1 + 1) ∨ q = (w.heap.size + 1 + 1 + 1)) (by kernel_rfl) (fun Wd hd hd0 => ?_)
   refine zT 0 (.agg s.arr) rfl (by kernel_rfl) (by rfl) hd (fun _ _ _ h => h) ?_ ?_
   ·intro W' hS'
    exact run_load_blk rfl STStore (by go_simp) (hBa.ext hS' (by omega)) rfl
   simp only [Act.put, zA, zB, zC, zD, zE, zF]
   refine zO 1 (by kernel_rfl) ?_
   refine wpOp_call (f := 16) (args := #[.int .i64 34]) rfl (by rfl) (by go_simp) ((refNo 34 Wd).mono ?_)
   rintro e wn ⟨rfl, hxn⟩
   have hd1 := hd.trans hxn (fun _ _ e => e.elim)
   have hd01 := hd0.tr hxn
   refine ⟨_, rfl, hd1, ?_⟩
   simp only [Act.put, zA, zB, zC, zD, zE, zF]
   refine zO 2 (by kernel_rfl) ?_
   refine wpOp_store (p := (w.heap.size + 1 + 1)) (cs := s.arr) rfl (by rfl) rfl (by go_simp) (by go_simp) (hRa.e0 hd01) rfl STStore rfl rfl (fun w2 hR2 hx2 => ?_)
   have hd2 := hd1.trans hx2 (fun q hq e => .inl e)
   refine ⟨hd2, ?_⟩
   simp only [Act.put, zA, zB, zC, zD, zE, zF]
   refine zO 3 (by kernel_rfl) ?_
   refine wpOp_store (p := (w.heap.size + 1 + 1 + 1)) (cs := resArr 34 0) rfl (by rfl) rfl (by go_simp) (by go_simp) ((hEa.e0 hd01).ext hx2 (fun e => absurd (show (w.heap.size + 1 + 1 + 1) = (w.heap.size + 1 + 1) from e) (by omega))) rfl STResult rfl rfl (fun w3 hE3 hx3' => ?_)
   have hx3 := hd2.trans hx3' (fun q hq e => .inr e)
   have hR3 := hR2.ext hx3' (fun e => absurd (show (w.heap.size + 1 + 1) = (w.heap.size + 1 + 1 + 1) from e) (by omega))
   refine ⟨hx3, wpAnyH_done (by kernel_rfl) ?_ _⟩
   simp only [Act.put, zA, zB, zC, zD, zE, zF]
   go_wp2
   have hxx : Ext Nothing w w3 := hxa.trans hx3 (fun b hb e => by omega)
   exact bodyPost_ret (results_cell2 rfl STStore STResult rfl rfl hR3 rfl hE3 rfl) rfl ⟨s, ⟨34, 0, []⟩, rfl, h.keep0 hxx, HF.out, rfl, hxx.mono (fun _ _ e => e.elim)⟩
  ·have HI := Lib.hid hi
   clear hi
   have hi0 : (0 : Int) ≤ (i : Int) := by omega
   have hid : decide ((i : Int) < 0) = false := decide_eq_false (Int.not_lt.2 hi0)
   go_upto_region 4 with (first | go_skip | go_guarded | ((with_reducible refine isW ?_); refine wpList_load_blk rfl 30 _ rfl STStore w.heap.size rfl s.arr (show Blk _ _ 30 _ from hBp) rfl ?_) | ((with_reducible refine isW ?_); refine wpList_load_blk rfl 30 _ rfl STStore w.heap.size rfl s.arr (show Blk _ _ 30 _ from hB1) rfl ?_) | (go_at_call 51; (with_reducible refine (refAtJob s.AJ s.nJ s.cJ s.jobs c.pj wp hslj hnJ _ _ _ _ _ _ _ _).mono ?_); rintro e w1 ⟨rfl, hx1⟩; (rw [HI.out]); have p0 : w1.cell? ⟨P, 0, none⟩ = some (.int .i64 c.pj) := (hPp.e0 hx1).cell 0; have hB1 := hBp.e0 hx1) | (go_at_call 62; (with_reducible refine (refAtEval s.AE s.nE s.cE s.evals c.pj w1 (hsle.ext0 hx1) hnE _ _ _ _ _ _ _ _).mono ?_); rintro e w2 ⟨rfl, hx2⟩; (rw [HK.out])))
   go_quiet (fail)
   have hdq := (Ext.refl Nothing w2).drewN nq
   generalize w2.drewN nq = wq at hdq ⊢
   go_upto_region 5 with (first | go_skip | go_guarded)
   have hBa := (hB1.e0 hx2).e0 hdq
   have hRa := ((hRp.e0 hx1).e0 hx2).e0 hdq
   have hEa := ((hEp.e0 hx1).e0 hx2).e0 hdq
   have hxa := ((hxp.tr hx1).tr hx2).tr hdq
   refine zH (S := fun q => q = (w.heap.size + 1 + 1) ∨ q = (w.heap.size + 1 + 1 + 1)) (by kernel_rfl) (fun Wd hd hd0 => ?_)
   refine zT 0 (.agg s.arr) rfl (by kernel_rfl) (by rfl) hd (fun _ _ _ h => h) ?_ ?_
   ·intro W' hS'
    exact run_load_blk rfl STStore (by go_simp) (hBa.ext hS' (by omega)) rfl
   simp only [Act.put, zA, zB, zC, zD, zE, zF]
   refine zO 1 (by kernel_rfl) ?_
   refine wpOp_call (f := 16) (args := #[.int .i64 34]) rfl (by rfl) (by go_simp) ((refNo 34 Wd).mono ?_)
   rintro e wn ⟨rfl, hxn⟩
   have hd1 := hd.trans hxn (fun _ _ e => e.elim)
   have hd01 := hd0.tr hxn
   refine ⟨_, rfl, hd1, ?_⟩
   simp only [Act.put, zA, zB, zC, zD, zE, zF]
   refine zO 2 (by kernel_rfl) ?_
   refine wpOp_store (p := (w.heap.size + 1 + 1)) (cs := s.arr) rfl (by rfl) rfl (by go_simp) (by go_simp) (hRa.e0 hd01) rfl STStore rfl rfl (fun w2 hR2 hx2 => ?_)
   have hd2 := hd1.trans hx2 (fun q hq e => .inl e)
   refine ⟨hd2, ?_⟩
   simp only [Act.put, zA, zB, zC, zD, zE, zF]
   refine zO 3 (by kernel_rfl) ?_
   refine wpOp_store (p := (w.heap.size + 1 + 1 + 1)) (cs := resArr 34 0) rfl (by rfl) rfl (by go_simp) (by go_simp) ((hEa.e0 hd01).ext hx2 (fun e => absurd (show (w.heap.size + 1 + 1 + 1) = (w.heap.size + 1 + 1) from e) (by omega))) rfl STResult rfl rfl (fun w3 hE3 hx3' => ?_)
   have hx3 := hd2.trans hx3' (fun q hq e => .inr e)
   have hR3 := hR2.ext hx3' (fun e => absurd (show (w.heap.size + 1 + 1) = (w.heap.size + 1 + 1 + 1) from e) (by omega))
   refine ⟨hx3, wpAnyH_done (by kernel_rfl) ?_ _⟩
   simp only [Act.put, zA, zB, zC, zD, zE, zF]
   go_wp2
   have hxx : Ext Nothing w w3 := hxa.trans hx3 (fun b hb e => by omega)
   exact bodyPost_ret (results_cell2 rfl STStore STResult rfl rfl hR3 rfl hE3 rfl) rfl ⟨s, ⟨34, 0, []⟩, rfl, h.keep0 hxx, HF.out, rfl, hxx.mono (fun _ _ e => e.elim)⟩
 ·have HK := Lib.hid hk
  rcases idx_cases (fun x : JobV => x.1.id == c.pj) s.jobs with ⟨hi, hf, _⟩ | ⟨i, x, hi, hxi, hp, hf, hfirst⟩
  ·have HI := Lib.hid hi
   have HF := Lib.hid (show Fsm.plan s.data c.d = (s.data, ⟨34, 0, []⟩) from Fsm.plan_noJ (jobAt_none hf))
   clear hi hf hk hkf hek hkp hkfirst
   have hk0 : (0 : Int) ≤ (k : Int) := by omega
   have hkd : decide ((k : Int) < 0) = false := decide_eq_false (Int.not_lt.2 hk0)
   go_upto_region 4 with (first | go_skip | go_guarded | ((with_reducible refine isW ?_); refine wpList_load_blk rfl 30 _ rfl STStore w.heap.size rfl s.arr (show Blk _ _ 30 _ from hBp) rfl ?_) | ((with_reducible refine isW ?_); refine wpList_load_blk rfl 30 _ rfl STStore w.heap.size rfl s.arr (show Blk _ _ 30 _ from hB1) rfl ?_) | (go_at_call 51; (with_reducible refine (refAtJob s.AJ s.nJ s.cJ s.jobs c.pj wp hslj hnJ _ _ _ _ _ _ _ _).mono ?_); rintro e w1 ⟨rfl, hx1⟩; (rw [HI.out]); have p0 : w1.cell? ⟨P, 0, none⟩ = some (.int .i64 c.pj) := (hPp.e0 hx1).cell 0; have hB1 := hBp.e0 hx1) | (go_at_call 62; (with_reducible refine (refAtEval s.AE s.nE s.cE s.evals c.pj w1 (hsle.ext0 hx1) hnE _ _ _ _ _ _ _ _).mono ?_); rintro e w2 ⟨rfl, hx2⟩; (rw [HK.out])))
   go_quiet (fail)
   have hdq := (Ext.refl Nothing w2).drewN nq
   generalize w2.drewN nq = wq at hdq ⊢
   go_upto_region 5 with (first | go_skip | go_guarded)
   have hBa := (hB1.e0 hx2).e0 hdq
   have hRa := ((hRp.e0 hx1).e0 hx2).e0 hdq
   have hEa := ((hEp.e0 hx1).e0 hx2).e0 hdq
   have hxa := ((hxp.tr hx1).tr hx2).tr hdq
   refine zH (S := fun q => q = (w.heap.size + 1 + 1) ∨ q = (w.heap.size + 1 + 1 + 1)) (by kernel_rfl) (fun Wd hd hd0 => ?_)
   refine zT 0 (.agg s.arr) rfl (by kernel_rfl) (by rfl) hd (fun _ _ _ h => h) ?_ ?_
   ·intro W' hS'
    exact run_load_blk rfl STStore (by go_simp) (hBa.ext hS' (by omega)) rfl
   simp only [Act.put, zA, zB, zC, zD, zE, zF]
   refine zO 1 (by kernel_rfl) ?_
   refine wpOp_call (f := 16) (args := #[.int .i64 34]) rfl (by rfl) (by go_simp) ((refNo 34 Wd).mono ?_)
   rintro e wn ⟨rfl, hxn⟩
   have hd1 := hd.trans hxn (fun _ _ e => e.elim)
   have hd01 := hd0.tr hxn
   refine ⟨_, rfl, hd1, ?_⟩
   simp only [Act.put, zA, zB, zC, zD, zE, zF]
   refine zO 2 (by kernel_rfl) ?_
   refine wpOp_store (p := (w.heap.size + 1 + 1)) (cs := s.arr) rfl (by rfl) rfl (by go_simp) (by go_simp) (hRa.e0 hd01) rfl STStore rfl rfl (fun w2 hR2 hx2 => ?_)
   have hd2 := hd1.trans hx2 (fun q hq e => .inl e)
   refine ⟨hd2, ?_⟩
   simp only [Act.put, zA, zB, zC, zD, zE, zF]
   refine zO 3 (by kernel_rfl) ?_
   refine wpOp_store (p := (w.heap.size + 1 + 1 + 1)) (cs := resArr 34 0) rfl (by rfl) rfl (by go_simp) (by go_simp) ((hEa.e0 hd01).ext hx2 (fun e => absurd (show (w.heap.size + 1 + 1 + 1) = (w.heap.size + 1 + 1) from e) (by omega))) rfl STResult rfl rfl (fun w3 hE3 hx3' => ?_)
   have hx3 := hd2.trans hx3' (fun q hq e => .inr e)
   have hR3 := hR2.ext hx3' (fun e => absurd (show (w.heap.size + 1 + 1) = (w.heap.size + 1 + 1 + 1) from e) (by omega))
   refine ⟨hx3, wpAnyH_done (by kernel_rfl) ?_ _⟩
   simp only [Act.put, zA, zB, zC, zD, zE, zF]
   go_wp2
   have hxx : Ext Nothing w w3 := hxa.trans hx3 (fun b hb e => by omega)
   exact bodyPost_ret (results_cell2 rfl STStore STResult rfl rfl hR3 rfl hE3 rfl) rfl ⟨s, ⟨34, 0, []⟩, rfl, h.keep0 hxx, HF.out, rfl, hxx.mono (fun _ _ e => e.elim)⟩
  ·have HI := Lib.hid hi
   have HJA := Lib.hid (show Fsm.jobAt s.data c.d.plan.job = some x.1 from jobAt_data hf)
   have HEA := Lib.hid (show Fsm.evalAt s.data c.d.plan.job = some ev from hkf)
   have HXI := Lib.hid hxi
   have HEK := Lib.hid hek
   have HKP := Lib.hid hkp
   have HKF := Lib.hid hkfirst
   obtain ⟨gJ, _, hAJ, hobJ, hgbJ, hi1, hceJ, _⟩ := hOp.putJ hxi
   obtain ⟨gE, _, hAE, hobE, hgbE, hk1, hceE, _⟩ := hOp.putE hek
   have HAJ := Lib.hid (show s.AJ = some ⟨gJ, 0, none⟩ from hAJ)
   have HAE := Lib.hid (show s.AE = some ⟨gE, 0, none⟩ from hAE)
   have hi0 : (0 : Int) ≤ (i : Int) := by omega
   have hk0 : (0 : Int) ≤ (k : Int) := by omega
   have hid : decide ((i : Int) < 0) = false := decide_eq_false (Int.not_lt.2 hi0)
   have hkd : decide ((k : Int) < 0) = false := decide_eq_false (Int.not_lt.2 hk0)
   obtain ⟨GA, gn, gc, hjv, _, _, hgn⟩ := (hOp.j.grp x (List.mem_of_getElem? hxi)).sl
   clear hi hf hp hfirst hk hkf hek hkp hkfirst hxi hAJ hAE
   obtain ⟨⟨j0, j1, j2, j3, jg, j5, j6⟩, jv⟩ := x
   have hjv : jv = Value.slice GA gn gc := hjv
   subst hjv
   obtain ⟨e0, e1, e2, e3⟩ := ev
   cases t1 : (j5 != c.pv) with
   | true =>
    have HF := Lib.hid (show Fsm.plan s.data c.d = (s.data, ⟨34, 0, []⟩) from Fsm.plan_bad HJA.out HEA.out (show (!(j5 == c.pv) || !(e2 == 1) || !(e3 == c.pi)) = true by rw [show (j5 == c.pv) = false from by simpa using t1]; rfl))
    go_upto_region 4 with (first | go_skip | go_guarded | ((with_reducible refine isW ?_); refine wpList_load_blk rfl 30 _ rfl STStore w.heap.size rfl s.arr (show Blk _ _ 30 _ from hBp) rfl ?_) | ((with_reducible refine isW ?_); refine wpList_load_blk rfl 30 _ rfl STStore w.heap.size rfl s.arr (show Blk _ _ 30 _ from hB1) rfl ?_) | (go_at_call 51; (with_reducible refine (refAtJob s.AJ s.nJ s.cJ s.jobs c.pj wp hslj hnJ _ _ _ _ _ _ _ _).mono ?_); rintro e w1 ⟨rfl, hx1⟩; (rw [HI.out]); have p0 : w1.cell? ⟨P, 0, none⟩ = some (.int .i64 c.pj) := (hPp.e0 hx1).cell 0; have hB1 := hBp.e0 hx1) | (go_at_call 62; (with_reducible refine (refAtEval s.AE s.nE s.cE s.evals c.pj w1 (hsle.ext0 hx1) hnE _ _ _ _ _ _ _ _).mono ?_); rintro e w2 ⟨rfl, hx2⟩; (rw [HK.out]); have d2 : w2.cell? ⟨w.heap.size, 2, none⟩ = some (.slice (some ⟨gJ, 0, none⟩) s.nJ s.cJ) := (by rw [← HAJ.out]; exact (hB1.e0 hx2).cell 2); have d6 : w2.cell? ⟨w.heap.size, 6, none⟩ = some (.slice (some ⟨gE, 0, none⟩) s.nE s.cE) := (by rw [← HAE.out]; exact (hB1.e0 hx2).cell 6); have kj5 : w2.cell? ⟨gJ, i * 7 + 5, none⟩ = some (.int .i64 j5) := hx2.cell (hx1.cell (hceJ 5 _ rfl) (fun e => e)) (fun e => e); have ke2 : w2.cell? ⟨gE, k * 4 + 2, none⟩ = some (.int .i64 e2) := hx2.cell (hx1.cell (hceE 2 _ rfl) (fun e => e)) (fun e => e); have ke3 : w2.cell? ⟨gE, k * 4 + 3, none⟩ = some (.int .i64 e3) := hx2.cell (hx1.cell (hceE 3 _ rfl) (fun e => e)) (fun e => e); have p1 : w2.cell? ⟨P, 1, none⟩ = some (.int .i64 c.pv) := ((hPp.e0 hx1).e0 hx2).cell 1; have p2 : w2.cell? ⟨P, 2, none⟩ = some (.int .i64 c.pi) := ((hPp.e0 hx1).e0 hx2).cell 2))
    go_quiet (fail)
    have hdq := (Ext.refl Nothing w2).drewN nq
    generalize w2.drewN nq = wq at hdq ⊢
    go_upto_region 5 with (first | go_skip | go_guarded)
    have hBa := (hB1.e0 hx2).e0 hdq
    have hRa := ((hRp.e0 hx1).e0 hx2).e0 hdq
    have hEa := ((hEp.e0 hx1).e0 hx2).e0 hdq
    have hxa := ((hxp.tr hx1).tr hx2).tr hdq
    refine zH (S := fun q => q = (w.heap.size + 1 + 1) ∨ q = (w.heap.size + 1 + 1 + 1)) (by kernel_rfl) (fun Wd hd hd0 => ?_)
    refine zT 0 (.agg s.arr) rfl (by kernel_rfl) (by rfl) hd (fun _ _ _ h => h) ?_ ?_
    ·intro W' hS'
     exact run_load_blk rfl STStore (by go_simp) (hBa.ext hS' (by omega)) rfl
    simp only [Act.put, zA, zB, zC, zD, zE, zF]
    refine zO 1 (by kernel_rfl) ?_
    refine wpOp_call (f := 16) (args := #[.int .i64 34]) rfl (by rfl) (by go_simp) ((refNo 34 Wd).mono ?_)
    rintro e wn ⟨rfl, hxn⟩
    have hd1 := hd.trans hxn (fun _ _ e => e.elim)
    have hd01 := hd0.tr hxn
    refine ⟨_, rfl, hd1, ?_⟩
    simp only [Act.put, zA, zB, zC, zD, zE, zF]
    refine zO 2 (by kernel_rfl) ?_
    refine wpOp_store (p := (w.heap.size + 1 + 1)) (cs := s.arr) rfl (by rfl) rfl (by go_simp) (by go_simp) (hRa.e0 hd01) rfl STStore rfl rfl (fun w2 hR2 hx2 => ?_)
    have hd2 := hd1.trans hx2 (fun q hq e => .inl e)
    refine ⟨hd2, ?_⟩
    simp only [Act.put, zA, zB, zC, zD, zE, zF]
    refine zO 3 (by kernel_rfl) ?_
    refine wpOp_store (p := (w.heap.size + 1 + 1 + 1)) (cs := resArr 34 0) rfl (by rfl) rfl (by go_simp) (by go_simp) ((hEa.e0 hd01).ext hx2 (fun e => absurd (show (w.heap.size + 1 + 1 + 1) = (w.heap.size + 1 + 1) from e) (by omega))) rfl STResult rfl rfl (fun w3 hE3 hx3' => ?_)
    have hx3 := hd2.trans hx3' (fun q hq e => .inr e)
    have hR3 := hR2.ext hx3' (fun e => absurd (show (w.heap.size + 1 + 1) = (w.heap.size + 1 + 1 + 1) from e) (by omega))
    refine ⟨hx3, wpAnyH_done (by kernel_rfl) ?_ _⟩
    simp only [Act.put, zA, zB, zC, zD, zE, zF]
    go_wp2
    have hxx : Ext Nothing w w3 := hxa.trans hx3 (fun b hb e => by omega)
    exact bodyPost_ret (results_cell2 rfl STStore STResult rfl rfl hR3 rfl hE3 rfl) rfl ⟨s, ⟨34, 0, []⟩, rfl, h.keep0 hxx, HF.out, rfl, hxx.mono (fun _ _ e => e.elim)⟩
   | false =>
    cases t2 : (e2 != 1) with
    | true =>
     have HF := Lib.hid (show Fsm.plan s.data c.d = (s.data, ⟨34, 0, []⟩) from Fsm.plan_bad HJA.out HEA.out (show (!(j5 == c.pv) || !(e2 == 1) || !(e3 == c.pi)) = true by rw [show (e2 == 1) = false from by simpa using t2]; simp))
     go_upto_region 4 with (first | go_skip | go_guarded | ((with_reducible refine isW ?_); refine wpList_load_blk rfl 30 _ rfl STStore w.heap.size rfl s.arr (show Blk _ _ 30 _ from hBp) rfl ?_) | ((with_reducible refine isW ?_); refine wpList_load_blk rfl 30 _ rfl STStore w.heap.size rfl s.arr (show Blk _ _ 30 _ from hB1) rfl ?_) | (go_at_call 51; (with_reducible refine (refAtJob s.AJ s.nJ s.cJ s.jobs c.pj wp hslj hnJ _ _ _ _ _ _ _ _).mono ?_); rintro e w1 ⟨rfl, hx1⟩; (rw [HI.out]); have p0 : w1.cell? ⟨P, 0, none⟩ = some (.int .i64 c.pj) := (hPp.e0 hx1).cell 0; have hB1 := hBp.e0 hx1) | (go_at_call 62; (with_reducible refine (refAtEval s.AE s.nE s.cE s.evals c.pj w1 (hsle.ext0 hx1) hnE _ _ _ _ _ _ _ _).mono ?_); rintro e w2 ⟨rfl, hx2⟩; (rw [HK.out]); have d2 : w2.cell? ⟨w.heap.size, 2, none⟩ = some (.slice (some ⟨gJ, 0, none⟩) s.nJ s.cJ) := (by rw [← HAJ.out]; exact (hB1.e0 hx2).cell 2); have d6 : w2.cell? ⟨w.heap.size, 6, none⟩ = some (.slice (some ⟨gE, 0, none⟩) s.nE s.cE) := (by rw [← HAE.out]; exact (hB1.e0 hx2).cell 6); have kj5 : w2.cell? ⟨gJ, i * 7 + 5, none⟩ = some (.int .i64 j5) := hx2.cell (hx1.cell (hceJ 5 _ rfl) (fun e => e)) (fun e => e); have ke2 : w2.cell? ⟨gE, k * 4 + 2, none⟩ = some (.int .i64 e2) := hx2.cell (hx1.cell (hceE 2 _ rfl) (fun e => e)) (fun e => e); have ke3 : w2.cell? ⟨gE, k * 4 + 3, none⟩ = some (.int .i64 e3) := hx2.cell (hx1.cell (hceE 3 _ rfl) (fun e => e)) (fun e => e); have p1 : w2.cell? ⟨P, 1, none⟩ = some (.int .i64 c.pv) := ((hPp.e0 hx1).e0 hx2).cell 1; have p2 : w2.cell? ⟨P, 2, none⟩ = some (.int .i64 c.pi) := ((hPp.e0 hx1).e0 hx2).cell 2))
     go_quiet (fail)
     have hdq := (Ext.refl Nothing w2).drewN nq
     generalize w2.drewN nq = wq at hdq ⊢
     go_upto_region 5 with (first | go_skip | go_guarded)
     have hBa := (hB1.e0 hx2).e0 hdq
     have hRa := ((hRp.e0 hx1).e0 hx2).e0 hdq
     have hEa := ((hEp.e0 hx1).e0 hx2).e0 hdq
     have hxa := ((hxp.tr hx1).tr hx2).tr hdq
     refine zH (S := fun q => q = (w.heap.size + 1 + 1) ∨ q = (w.heap.size + 1 + 1 + 1)) (by kernel_rfl) (fun Wd hd hd0 => ?_)
     refine zT 0 (.agg s.arr) rfl (by kernel_rfl) (by rfl) hd (fun _ _ _ h => h) ?_ ?_
     ·intro W' hS'
      exact run_load_blk rfl STStore (by go_simp) (hBa.ext hS' (by omega)) rfl
     simp only [Act.put, zA, zB, zC, zD, zE, zF]
     refine zO 1 (by kernel_rfl) ?_
     refine wpOp_call (f := 16) (args := #[.int .i64 34]) rfl (by rfl) (by go_simp) ((refNo 34 Wd).mono ?_)
     rintro e wn ⟨rfl, hxn⟩
     have hd1 := hd.trans hxn (fun _ _ e => e.elim)
     have hd01 := hd0.tr hxn
     refine ⟨_, rfl, hd1, ?_⟩
     simp only [Act.put, zA, zB, zC, zD, zE, zF]
     refine zO 2 (by kernel_rfl) ?_
     refine wpOp_store (p := (w.heap.size + 1 + 1)) (cs := s.arr) rfl (by rfl) rfl (by go_simp) (by go_simp) (hRa.e0 hd01) rfl STStore rfl rfl (fun w2 hR2 hx2 => ?_)
     have hd2 := hd1.trans hx2 (fun q hq e => .inl e)
     refine ⟨hd2, ?_⟩
     simp only [Act.put, zA, zB, zC, zD, zE, zF]
     refine zO 3 (by kernel_rfl) ?_
     refine wpOp_store (p := (w.heap.size + 1 + 1 + 1)) (cs := resArr 34 0) rfl (by rfl) rfl (by go_simp) (by go_simp) ((hEa.e0 hd01).ext hx2 (fun e => absurd (show (w.heap.size + 1 + 1 + 1) = (w.heap.size + 1 + 1) from e) (by omega))) rfl STResult rfl rfl (fun w3 hE3 hx3' => ?_)
     have hx3 := hd2.trans hx3' (fun q hq e => .inr e)
     have hR3 := hR2.ext hx3' (fun e => absurd (show (w.heap.size + 1 + 1) = (w.heap.size + 1 + 1 + 1) from e) (by omega))
     refine ⟨hx3, wpAnyH_done (by kernel_rfl) ?_ _⟩
     simp only [Act.put, zA, zB, zC, zD, zE, zF]
     go_wp2
     have hxx : Ext Nothing w w3 := hxa.trans hx3 (fun b hb e => by omega)
     exact bodyPost_ret (results_cell2 rfl STStore STResult rfl rfl hR3 rfl hE3 rfl) rfl ⟨s, ⟨34, 0, []⟩, rfl, h.keep0 hxx, HF.out, rfl, hxx.mono (fun _ _ e => e.elim)⟩
    | false =>
     cases t3 : (e3 != c.pi) with
     | true =>
      have HF := Lib.hid (show Fsm.plan s.data c.d = (s.data, ⟨34, 0, []⟩) from Fsm.plan_bad HJA.out HEA.out (show (!(j5 == c.pv) || !(e2 == 1) || !(e3 == c.pi)) = true by rw [show (e3 == c.pi) = false from by simpa using t3]; simp))
      go_upto_region 4 with (first | go_skip | go_guarded | ((with_reducible refine isW ?_); refine wpList_load_blk rfl 30 _ rfl STStore w.heap.size rfl s.arr (show Blk _ _ 30 _ from hBp) rfl ?_) | ((with_reducible refine isW ?_); refine wpList_load_blk rfl 30 _ rfl STStore w.heap.size rfl s.arr (show Blk _ _ 30 _ from hB1) rfl ?_) | (go_at_call 51; (with_reducible refine (refAtJob s.AJ s.nJ s.cJ s.jobs c.pj wp hslj hnJ _ _ _ _ _ _ _ _).mono ?_); rintro e w1 ⟨rfl, hx1⟩; (rw [HI.out]); have p0 : w1.cell? ⟨P, 0, none⟩ = some (.int .i64 c.pj) := (hPp.e0 hx1).cell 0; have hB1 := hBp.e0 hx1) | (go_at_call 62; (with_reducible refine (refAtEval s.AE s.nE s.cE s.evals c.pj w1 (hsle.ext0 hx1) hnE _ _ _ _ _ _ _ _).mono ?_); rintro e w2 ⟨rfl, hx2⟩; (rw [HK.out]); have d2 : w2.cell? ⟨w.heap.size, 2, none⟩ = some (.slice (some ⟨gJ, 0, none⟩) s.nJ s.cJ) := (by rw [← HAJ.out]; exact (hB1.e0 hx2).cell 2); have d6 : w2.cell? ⟨w.heap.size, 6, none⟩ = some (.slice (some ⟨gE, 0, none⟩) s.nE s.cE) := (by rw [← HAE.out]; exact (hB1.e0 hx2).cell 6); have kj5 : w2.cell? ⟨gJ, i * 7 + 5, none⟩ = some (.int .i64 j5) := hx2.cell (hx1.cell (hceJ 5 _ rfl) (fun e => e)) (fun e => e); have ke2 : w2.cell? ⟨gE, k * 4 + 2, none⟩ = some (.int .i64 e2) := hx2.cell (hx1.cell (hceE 2 _ rfl) (fun e => e)) (fun e => e); have ke3 : w2.cell? ⟨gE, k * 4 + 3, none⟩ = some (.int .i64 e3) := hx2.cell (hx1.cell (hceE 3 _ rfl) (fun e => e)) (fun e => e); have p1 : w2.cell? ⟨P, 1, none⟩ = some (.int .i64 c.pv) := ((hPp.e0 hx1).e0 hx2).cell 1; have p2 : w2.cell? ⟨P, 2, none⟩ = some (.int .i64 c.pi) := ((hPp.e0 hx1).e0 hx2).cell 2))
      go_quiet (fail)
      have hdq := (Ext.refl Nothing w2).drewN nq
      generalize w2.drewN nq = wq at hdq ⊢
      go_upto_region 5 with (first | go_skip | go_guarded)
      have hBa := (hB1.e0 hx2).e0 hdq
      have hRa := ((hRp.e0 hx1).e0 hx2).e0 hdq
      have hEa := ((hEp.e0 hx1).e0 hx2).e0 hdq
      have hxa := ((hxp.tr hx1).tr hx2).tr hdq
      refine zH (S := fun q => q = (w.heap.size + 1 + 1) ∨ q = (w.heap.size + 1 + 1 + 1)) (by kernel_rfl) (fun Wd hd hd0 => ?_)
      refine zT 0 (.agg s.arr) rfl (by kernel_rfl) (by rfl) hd (fun _ _ _ h => h) ?_ ?_
      ·intro W' hS'
       exact run_load_blk rfl STStore (by go_simp) (hBa.ext hS' (by omega)) rfl
      simp only [Act.put, zA, zB, zC, zD, zE, zF]
      refine zO 1 (by kernel_rfl) ?_
      refine wpOp_call (f := 16) (args := #[.int .i64 34]) rfl (by rfl) (by go_simp) ((refNo 34 Wd).mono ?_)
      rintro e wn ⟨rfl, hxn⟩
      have hd1 := hd.trans hxn (fun _ _ e => e.elim)
      have hd01 := hd0.tr hxn
      refine ⟨_, rfl, hd1, ?_⟩
      simp only [Act.put, zA, zB, zC, zD, zE, zF]
      refine zO 2 (by kernel_rfl) ?_
      refine wpOp_store (p := (w.heap.size + 1 + 1)) (cs := s.arr) rfl (by rfl) rfl (by go_simp) (by go_simp) (hRa.e0 hd01) rfl STStore rfl rfl (fun w2 hR2 hx2 => ?_)
      have hd2 := hd1.trans hx2 (fun q hq e => .inl e)
      refine ⟨hd2, ?_⟩
      simp only [Act.put, zA, zB, zC, zD, zE, zF]
      refine zO 3 (by kernel_rfl) ?_
      refine wpOp_store (p := (w.heap.size + 1 + 1 + 1)) (cs := resArr 34 0) rfl (by rfl) rfl (by go_simp) (by go_simp) ((hEa.e0 hd01).ext hx2 (fun e => absurd (show (w.heap.size + 1 + 1 + 1) = (w.heap.size + 1 + 1) from e) (by omega))) rfl STResult rfl rfl (fun w3 hE3 hx3' => ?_)
      have hx3 := hd2.trans hx3' (fun q hq e => .inr e)
      have hR3 := hR2.ext hx3' (fun e => absurd (show (w.heap.size + 1 + 1) = (w.heap.size + 1 + 1 + 1) from e) (by omega))
      refine ⟨hx3, wpAnyH_done (by kernel_rfl) ?_ _⟩
      simp only [Act.put, zA, zB, zC, zD, zE, zF]
      go_wp2
      have hxx : Ext Nothing w w3 := hxa.trans hx3 (fun b hb e => by omega)
      exact bodyPost_ret (results_cell2 rfl STStore STResult rfl rfl hR3 rfl hE3 rfl) rfl ⟨s, ⟨34, 0, []⟩, rfl, h.keep0 hxx, HF.out, rfl, hxx.mono (fun _ _ e => e.elim)⟩
     | false =>
      have HPG := Lib.hid (show (!(j5 == c.pv) || !(e2 == 1) || !(e3 == c.pi)) = false by rw [show (j5 == c.pv) = true from by simpa using t1, show (e2 == 1) = true from by simpa using t2, show (e3 == c.pi) = true from by simpa using t3]; rfl)
      go_upto_region 4 with (first | go_skip | go_guarded | ((with_reducible refine isW ?_); refine wpList_load_blk rfl 30 _ rfl STStore w.heap.size rfl s.arr (show Blk _ _ 30 _ from hBp) rfl ?_) | ((with_reducible refine isW ?_); refine wpList_load_blk rfl 30 _ rfl STStore w.heap.size rfl s.arr (show Blk _ _ 30 _ from hB1) rfl ?_) | (go_at_call 51; (with_reducible refine (refAtJob s.AJ s.nJ s.cJ s.jobs c.pj wp hslj hnJ _ _ _ _ _ _ _ _).mono ?_); rintro e w1 ⟨rfl, hx1⟩; (rw [HI.out]); have p0 : w1.cell? ⟨P, 0, none⟩ = some (.int .i64 c.pj) := (hPp.e0 hx1).cell 0; have hB1 := hBp.e0 hx1) | (go_at_call 62; (with_reducible refine (refAtEval s.AE s.nE s.cE s.evals c.pj w1 (hsle.ext0 hx1) hnE _ _ _ _ _ _ _ _).mono ?_); rintro e w2 ⟨rfl, hx2⟩; (rw [HK.out]); have d2 : w2.cell? ⟨w.heap.size, 2, none⟩ = some (.slice (some ⟨gJ, 0, none⟩) s.nJ s.cJ) := (by rw [← HAJ.out]; exact (hB1.e0 hx2).cell 2); have d6 : w2.cell? ⟨w.heap.size, 6, none⟩ = some (.slice (some ⟨gE, 0, none⟩) s.nE s.cE) := (by rw [← HAE.out]; exact (hB1.e0 hx2).cell 6); have kj5 : w2.cell? ⟨gJ, i * 7 + 5, none⟩ = some (.int .i64 j5) := hx2.cell (hx1.cell (hceJ 5 _ rfl) (fun e => e)) (fun e => e); have ke2 : w2.cell? ⟨gE, k * 4 + 2, none⟩ = some (.int .i64 e2) := hx2.cell (hx1.cell (hceE 2 _ rfl) (fun e => e)) (fun e => e); have ke3 : w2.cell? ⟨gE, k * 4 + 3, none⟩ = some (.int .i64 e3) := hx2.cell (hx1.cell (hceE 3 _ rfl) (fun e => e)) (fun e => e); have p1 : w2.cell? ⟨P, 1, none⟩ = some (.int .i64 c.pv) := ((hPp.e0 hx1).e0 hx2).cell 1; have p2 : w2.cell? ⟨P, 2, none⟩ = some (.int .i64 c.pi) := ((hPp.e0 hx1).e0 hx2).cell 2))
      go_quiet (fail)
      have hdq := (Ext.refl Nothing w2).drewN nq
      generalize w2.drewN nq = wq at hdq ⊢
      have hxq2 : Ext Nothing wp wq := (hx1.tr hx2).tr hdq
      have hB := hBp.e0 hxq2
      have hP := hPp.e0 hxq2
      have hR := hRp.e0 hxq2
      have hEb := hEp.e0 hxq2
      have hO := hOp.keep0 hxq2
      have hxw : Ext (RowB base w) w wq := (hxp.tr hxq2).mono (fun _ _ e => e.elim)
      have hgJn : base ≤ gJ := own_ge hOp.j.own hobJ
      have hgEn : base ≤ gE := own_ge hOp.e hobE
      have hzP : P < wq.heap.size := hP.lt
      have hsA0 := Lib.hid h.al
      have hssl := Lib.hid hc.s.len
      have hpsl := Lib.hid hc.p.len
      have hsn := hc.sl
      have hpn := hc.pl
      have hnA : s.nA ≤ 1048576 := by have := h.al; omega
      clear hx1 hx2 hdq hBp hPp hRp hEp hOp hxp hslj hsle p0p p0 hB1 hceJ hceE d2 d6 kj5 ke2 ke3 p1 p2 hgbJ hgbE
      go_wp2
      go_loopw [9, 10] (fun ki ka wr => ∃ t : Nat, t ≤ c.sn ∧ ki = .int .i64 t ∧ ∃ aL, aL.length = s.nA ∧ aL = Fsm.stops c.pj s.allocs (c.stops.take t) ∧ OwnS base wr ({ s with allocs := aL } : StoreV) ∧ Blk wr w.heap.size 30 s.arr ∧ Blk wr P 47 c.parr ∧ Blk wr (w.heap.size + 1 + 1) 30 #[.int .i64 0, .int .i64 0, .slice none 0 0, .slice none 0 0, .slice none 0 0, .slice none 0 0, .slice none 0 0, .slice none 0 0, .slice none 0 0] ∧ Blk wr (w.heap.size + 1 + 1 + 1) 34 #[.int .i64 0, .int .i64 0, .slice none 0 0] ∧ Ext (RowB base w) w wr) (fun ki ka _ => c.sn - (intOf ki).toNat)
      case atStart => exact ⟨0, Nat.zero_le _, rfl, s.allocs, hsA0.out.symm, rfl, hO, hB, hP, hR, hEb, hxw⟩
      case round =>
       obtain ⟨t, ht, rfl, aL, hla, hst, hOr, hBr, hPr, hRr, hEr, hxr⟩ := hrel
       clear hO hB hP hR hEb hxw
       have p3 : wr.cell? ⟨P, 3, none⟩ = some (.slice c.SA c.sn c.sc) := hPr.cell 3
       by_cases hlt : t < c.sn
       ·have hci := hc.keepR hxr
        obtain ⟨hjn, b, off, hSe, hsce⟩ := hci.s.get (Ext.refl Nothing wr) hlt
        have hstp := foldl_take (fun m id => Fsm.turn1 (fun a : AllocD => a.id == id) (fun a => if a.job == c.pj && !overB a then { a with stop := true } else a) m) s.allocs c.stops t hjn
        rw [show List.foldl _ s.allocs (c.stops.take t) = aL from hst.symm] at hstp
        generalize c.stops[t] = id at hsce hstp
        rw [hSe] at p3
        have q0 : wr.cell? ⟨b, off + t, none⟩ = some (.int .i64 id) := by have := hsce 0 _ rfl; simpa using this
        have hk0' : (0 : Int) ≤ (t : Int) := by omega
        have hk1' : (t : Int) < c.sn := by omega
        have HT := Lib.hid hlt
        have HSE := Lib.hid hSe
        have HLA := Lib.hid hla
        have HST := Lib.hid (show Fsm.stops c.pj s.allocs (c.stops.take (t + 1)) = Fsm.turn1 (fun a : AllocD => a.id == id) (fun a => if a.job == c.pj && !overB a then { a with stop := true } else a) aL from hstp)
        clear hSe hstp hst hla hci hsce
        have hslA : Sl wr 11 s.AA s.nA (aL.map AllocD.cells) := hOr.slA
        have hnA2 : s.nA ≤ 67108864 := by omega
        obtain ⟨ix, hix⟩ : ∃ ix, idxI (fun x : AllocD => x.id == id) aL = ix := ⟨_, rfl⟩
        have HIX := Lib.hid hix
        clear hix
        go_upto_region 9 with (first | go_skip | go_guarded)
        clear p3
        refine calm_region (by kernel_rfl) (by kernel_rfl) ?_
        refine calm_val (v := .agg s.arr) (by kernel_rfl) ?_ ?_
        ·intro W' hW
         exact run_load_blk rfl STStore (by go_simp) (hBr.e0 hW) rfl
        simp only [Act.put, zA, zB, zC, zD, zE, zF]
        refine calm_val (v := .pointer (some ⟨P, 3, none⟩)) (by kernel_rfl) ?_ ?_
        ·intro W' hW
         go_simp
        simp only [Act.put, zA, zB, zC, zD, zE, zF]
        refine calm_val (v := .slice (some ⟨b, off, none⟩) c.sn c.sc) (by kernel_rfl) ?_ ?_
        ·intro W' hW
         have q3 : W'.cell? ⟨P, 3, none⟩ = some (.slice (some ⟨b, off, none⟩) c.sn c.sc) := (by rw [← HSE.out]; exact (hPr.e0 hW).cell 3)
         go_simp
        simp only [Act.put, zA, zB, zC, zD, zE, zF]
        refine calm_val (v := .int .i64 (t : Int)) (by kernel_rfl) ?_ ?_
        ·intro W' hW
         go_simp
        simp only [Act.put, zA, zB, zC, zD, zE, zF]
        refine calm_val (v := .pointer (some ⟨b, off + t, none⟩)) (by kernel_rfl) ?_ ?_
        ·intro W' hW
         go_simp
        simp only [Act.put, zA, zB, zC, zD, zE, zF]
        refine calm_val (v := .int .i64 id) (by kernel_rfl) ?_ ?_
        ·intro W' hW
         have q4 : W'.cell? ⟨b, off + t, none⟩ = some (.int .i64 id) := hW.c0 q0
         go_simp
        simp only [Act.put, zA, zB, zC, zD, zE, zF]
        refine calm_call (v := .int .i64 ix) (f := 60) (args := #[.agg s.arr, .int .i64 id]) (by kernel_rfl) (fun W' hW => by go_simp) (fun W' hW => (refAtAlloc s.AA s.nA s.cA aL id W' (hslA.ext0 hW) hnA2 _ _ _ _ _ _ _ _).mono fun e w' ⟨he, hxu⟩ => ⟨by rw [he, HIX.out], hW.tr hxu⟩) ?_
        simp only [Act.put, zA, zB, zC, zD, zE, zF]
        refine calm_val (v := .int .i64 ix) (by kernel_rfl) ?_ ?_
        ·intro W' hW
         go_simp
        simp only [Act.put, zA, zB, zC, zD, zE, zF]
        refine calm_nil (fun wf hWf => ?_)
        have hOf := hOr.keep0 hWf
        have hBf := hBr.e0 hWf
        have hPf := hPr.e0 hWf
        have hRf := hRr.e0 hWf
        have hEf := hEr.e0 hWf
        have hxf := hxr.trans hWf (fun _ _ e => e.elim)
        clear hOr hBr hPr hRr hEr hxr hslA q0 hWf
        rcases idx_cases (fun x : AllocD => x.id == id) aL with ⟨hi, hf, _⟩ | ⟨m, y, hi, hy, hp, hf, hfirst⟩
        ·obtain rfl : ix = -1 := HIX.out.symm.trans hi
         have hs1 := Lib.hid (show aL = Fsm.stops c.pj s.allocs (c.stops.take (t + 1)) by rw [HST.out]; exact (Fsm.turn1_none hf).symm)
         clear hi hf
         go_upto_region 10 with (first | go_skip | go_guarded)
         go_quiet (fail)
         have hdq := (Ext.refl Nothing wf).drewN nq
         generalize wf.drewN nq = wq2 at hdq ⊢
         go_wp2_with (first | go_skip | go_guarded)
         go_roundw
         case rel => exact ⟨t + 1, HT.out, by go_num, aL, HLA.out, hs1.out, hOf.keep0 hdq, hBf.e0 hdq, hPf.e0 hdq, hRf.e0 hdq, hEf.e0 hdq, hxf.trans hdq (fun _ _ e => e.elim)⟩
         case measure => have := HT.out; simp [intOf]; omega
        ·obtain rfl : ix = (m : Int) := HIX.out.symm.trans hi
         obtain ⟨y0, y1, y2, y3, y4, y5, y6, ⟨y7, y8⟩, y9, y10⟩ := y
         have HTS := Lib.hid (Fsm.turn1_set (f := fun a : AllocD => if a.job == c.pj && !overB a then { a with stop := true } else a) hy hp hfirst)
         have HY := Lib.hid hy
         have hm0 : (0 : Int) ≤ (m : Int) := by omega
         have hmg : decide ((0 : Int) ≤ (m : Int)) = true := by simp
         obtain ⟨g, _, hAg, hob, hgb, hm1, hce, hput⟩ := hOf.putA (show ({ s with allocs := aL } : StoreV).allocs[m]? = some ⟨y0, y1, y2, y3, y4, y5, y6, ⟨y7, y8⟩, y9, y10⟩ from hy)
         have hm1 : (m : Int) < s.nA := hm1
         have HAG := Lib.hid (show s.AA = some ⟨g, 0, none⟩ from hAg)
         have c5 : wf.cell? ⟨w.heap.size, 5, none⟩ = some (.slice (some ⟨g, 0, none⟩) s.nA s.cA) := by rw [← HAG.out]; exact hBf.cell 5
         have k1 : wf.cell? ⟨g, m * 11 + 1, none⟩ = some (.int .i64 y1) := hce 1 _ rfl
         have k10 : wf.cell? ⟨g, m * 11 + 10, none⟩ = some (.int .i64 y10) := hce 10 _ rfl
         have p0 : wf.cell? ⟨P, 0, none⟩ = some (.int .i64 c.pj) := hPf.cell 0
         clear hi hf hy hp hfirst hAg hce
         cases v1 : (y1 == c.pj) with
         | false =>
          have hs1 := Lib.hid (show aL = Fsm.stops c.pj s.allocs (c.stops.take (t + 1)) by rw [HST.out]; exact (HTS.out.trans (by show aL.set m (if (y1 == c.pj && !overB _) = true then _ else _) = aL; rw [if_neg (by rw [v1]; simp)]; exact set_self HY.out)).symm)
          go_upto_region 10 with (first | go_skip | go_guarded)
          go_quiet (fail)
          have hdq := (Ext.refl Nothing wf).drewN nq
          generalize wf.drewN nq = wq2 at hdq ⊢
          go_wp2_with (first | go_skip | go_guarded)
          go_roundw
          case rel => exact ⟨t + 1, HT.out, by go_num, aL, HLA.out, hs1.out, hOf.keep0 hdq, hBf.e0 hdq, hPf.e0 hdq, hRf.e0 hdq, hEf.e0 hdq, hxf.trans hdq (fun _ _ e => e.elim)⟩
          case measure => have := HT.out; simp [intOf]; omega
         | true =>
          cases v2 : decide (y10 < 3) with
          | false =>
           have hs1 := Lib.hid (show aL = Fsm.stops c.pj s.allocs (c.stops.take (t + 1)) by rw [HST.out]; exact (HTS.out.trans (by show aL.set m (if (y1 == c.pj && !overB _) = true then _ else _) = aL; rw [if_neg (by rw [v1]; simp [overB]; simpa using v2)]; exact set_self HY.out)).symm)
           go_upto_region 10 with (first | go_skip | go_guarded)
           go_quiet (fail)
           have hdq := (Ext.refl Nothing wf).drewN nq
           generalize wf.drewN nq = wq2 at hdq ⊢
           go_wp2_with (first | go_skip | go_guarded)
           go_roundw
           case rel => exact ⟨t + 1, HT.out, by go_num, aL, HLA.out, hs1.out, hOf.keep0 hdq, hBf.e0 hdq, hPf.e0 hdq, hRf.e0 hdq, hEf.e0 hdq, hxf.trans hdq (fun _ _ e => e.elim)⟩
           case measure => have := HT.out; simp [intOf]; omega
          | true =>
           have hs1 := Lib.hid (show aL.set m ⟨y0, y1, y2, y3, y4, y5, y6, ⟨y7, y8⟩, true, y10⟩ = Fsm.stops c.pj s.allocs (c.stops.take (t + 1)) by rw [HST.out]; exact (HTS.out.trans (by show aL.set m (if (y1 == c.pj && !overB _) = true then _ else _) = _; rw [if_pos (by rw [v1]; simp [overB]; simpa using v2)])).symm)
           go_upto_region 10 with (first | go_skip | go_guarded)
           go_quiet (fail)
           have hdq := (Ext.refl Nothing wf).drewN nq
           generalize wf.drewN nq = wq2 at hdq ⊢
           have hOq := hOf.keep0 hdq
           have hBq := hBf.e0 hdq
           have hPq := hPf.e0 hdq
           have hRq := hRf.e0 hdq
           have hEq := hEf.e0 hdq
           have hxq := hxf.trans hdq (fun _ _ e => e.elim)
           obtain ⟨g2, _, hAg2, hob2, hgb2, _, hce2, hput2⟩ := hOq.putA (show ({ s with allocs := aL } : StoreV).allocs[m]? = some ⟨y0, y1, y2, y3, y4, y5, y6, ⟨y7, y8⟩, y9, y10⟩ from HY.out)
           have hgg : g = g2 := by have h7 : s.AA = some ⟨g2, 0, none⟩ := hAg2; rw [HAG.out] at h7; injection h7 with h7; injection h7
           subst hgg
           clear hAg2 hput
           have hO5 : OwnS base (wq2.setCell ⟨g, m * 11 + 9, none⟩ (.bool true)) ({ s with allocs := aL.set m ⟨y0, y1, y2, y3, y4, y5, y6, ⟨y7, y8⟩, true, y10⟩ } : StoreV) := hput2 9 (.bool true) ⟨y0, y1, y2, y3, y4, y5, y6, ⟨y7, y8⟩, true, y10⟩ (by decide) rfl
           have hs5 : Ext (fun b => b = g) wq2 (wq2.setCell ⟨g, m * 11 + 9, none⟩ (.bool true)) := Ext.set1 _ _ _ _
           have c5q : wq2.cell? ⟨w.heap.size, 5, none⟩ = some (.slice (some ⟨g, 0, none⟩) s.nA s.cA) := by rw [← HAG.out]; exact hBq.cell 5
           have k9q : wq2.cell? ⟨g, m * 11 + 9, none⟩ = some (.bool y9) := hce2 9 _ rfl
           have f9q : wq2.frozen? ⟨g, m * 11 + 9, none⟩ = false := hgb2.frozen _
           have nB : g ≠ w.heap.size := Blk.ne hgb2 hBq (by decide)
           have nP : g ≠ P := Blk.ne hgb2 hPq (by decide)
           have nR : g ≠ (w.heap.size + 1 + 1) := Blk.ne hgb2 hRq (by decide)
           have nE : g ≠ (w.heap.size + 1 + 1 + 1) := Blk.ne hgb2 hEq (by decide)
           have hgg2 : base ≤ g := own_ge hOq.a hob2
           go_wp2_with (first | go_skip | go_guarded)
           go_roundw
           case rel => exact ⟨t + 1, HT.out, by go_num, aL.set m ⟨y0, y1, y2, y3, y4, y5, y6, ⟨y7, y8⟩, true, y10⟩, by rw [List.length_set]; exact HLA.out, hs1.out, hO5, hBq.ext hs5 (fun e => nB e.symm), hPq.ext hs5 (fun e => nP e.symm), hRq.ext hs5 (fun e => nR e.symm), hEq.ext hs5 (fun e => nE e.symm), hxq.setRow (RowB.of_blk hgb2 (by decide) hgg2) _⟩
           case measure => have := HT.out; simp [intOf]; omega
       ·have hnl2 : ¬ ((t : Int) < c.sn) := by omega
        have HSTP := Lib.hid (show Fsm.stops c.pj s.allocs c.stops = aL by rw [hst, List.take_of_length_le (by have := hssl.out; omega)])
        have hal0 : aL.length ≤ 1048576 := by omega
        clear hst
        go_wp2
        go_loopw [11, 12, 13, 14, 15, 16, 17, 18] (fun av lv fv _ _ _ _ _ wr => ∃ rest A n ca al nx aB last first, av = .bool aB ∧ lv = .int .i64 last ∧ fv = .bool first ∧ Fsm.Todo c.places first last rest ∧ OwnS base wr ({ s with AA := A, nA := n, cA := ca, allocs := al, next := nx } : StoreV) ∧ (Fsm.nodesUp c.places).foldl (Fsm.planStep ⟨j0, j1, j2, j3, jg, j5, j6⟩ c.places) (({ s.data with allocs := aL } : StoreD), true) = rest.foldl (Fsm.planStep ⟨j0, j1, j2, j3, jg, j5, j6⟩ c.places) (({ s with AA := A, nA := n, cA := ca, allocs := al, next := nx } : StoreV).data, aB) ∧ al.length ≤ 1048576 ∧ Blk wr w.heap.size 30 ({ s with AA := A, nA := n, cA := ca, allocs := al, next := nx } : StoreV).arr ∧ Blk wr P 47 c.parr ∧ Blk wr (w.heap.size + 1 + 1) 30 #[.int .i64 0, .int .i64 0, .slice none 0 0, .slice none 0 0, .slice none 0 0, .slice none 0 0, .slice none 0 0, .slice none 0 0, .slice none 0 0] ∧ Blk wr (w.heap.size + 1 + 1 + 1) 34 #[.int .i64 0, .int .i64 0, .slice none 0 0] ∧ Ext (RowB base w) w wr) (fun _ lv fv _ _ _ _ _ _ => Fsm.left c.places (boolOf fv) (intOf lv))
        case atStart => exact ⟨Fsm.nodesUp c.places, s.AA, s.nA, s.cA, aL, s.next, true, 0, true, rfl, rfl, rfl, Fsm.Todo.start _ _, hOr, rfl, hal0, hBr, hPr, hRr, hEr, hxr⟩
        case round =>
         obtain ⟨rest, A, n, ca, al, nx, aB, last, first, rfl, rfl, rfl, htd, hO, hfold, hal1, hB, hP, hR, hEb, hxw⟩ := hrel
         obtain ⟨wo, rfl⟩ : ∃ wo : World, wo = wr := ⟨_, rfl⟩
         clear hOr hBr hPr hRr hEr hxr p3
         have HTD := Lib.hid htd
         have HFO := Lib.hid hfold
         clear htd hfold
         go_wp2
         go_loopw [14, 15, 16, 17] (fun nv sv iv _ wr => ∃ t : Nat, t ≤ c.pn ∧ iv = .int .i64 t ∧ nv = .int .i64 (Fsm.nextF first last (c.places.take t)).1 ∧ sv = .bool (Fsm.nextF first last (c.places.take t)).2 ∧ Ext Nothing wo wr) (fun nv sv iv _ _ => c.pn - (intOf iv).toNat)
         case atStart => exact ⟨0, Nat.zero_le _, rfl, rfl, rfl, Ext.refl _ _⟩
         case round =>
          obtain ⟨t, ht, rfl, rfl, rfl, hx⟩ := hrel
          have p4 : wr.cell? ⟨P, 4, none⟩ = some (.slice c.PA c.pn c.pc) := (hP.e0 hx).cell 4
          by_cases hlt : t < c.pn
          ·have hci := hc.keepR (hxw.trans hx (fun _ _ e => e.elim))
           obtain ⟨hjn, b, off, hPe, hpce⟩ := hci.p.get (Ext.refl Nothing wr) hlt
           have hnt := Fsm.nextF_take first last c.places t (List.getElem?_eq_getElem hjn)
           generalize c.places[t] = x at hpce hnt
           obtain ⟨x0, x1, x2, x3, x4, x5, x6, ⟨x7, x8⟩, x9, x10⟩ := x
           generalize Fsm.nextF first last (c.places.take t) = z at hnt ⊢
           obtain ⟨z1, z2⟩ := z
           rw [hPe] at p4
           have l5 : wr.cell? ⟨b, off + t * 11 + 5, none⟩ = some (.int .i64 x5) := hpce 5 _ rfl
           have hk0' : (0 : Int) ≤ (t : Int) := by omega
           have hk1' : (t : Int) < c.pn := by omega
           have HT := Lib.hid hlt
           have HNT := Lib.hid (show Fsm.nextF first last (c.places.take (t + 1)) = if ((first || decide (last < x5)) && (!z2 || decide (x5 < z1))) = true then (x5, true) else (z1, z2) from hnt)
           clear hPe hnt hpce hci
           simp only []
           go_upto_region 22 with (first | go_skip | go_guarded)
           go_cut [136] from 122 to 135 (fun e wx => e = .bool ((first || decide (last < x5)) && (!z2 || decide (x5 < z1))) ∧ wr = wx)
           case first =>
            cases first with
            | true =>
             cases z2 with
             | false =>
              go_wp2_with (first | go_skip | go_guarded)
              go_meet
              exact ⟨by rfl, rfl⟩
             | true =>
              cases v2 : decide (x5 < z1) with
              | true =>
               go_wp2_with (first | go_skip | go_guarded)
               go_meet
               exact ⟨by rw [v2]; rfl, rfl⟩
              | false =>
               go_wp2_with (first | go_skip | go_guarded)
               go_meet
               exact ⟨by rw [v2]; rfl, rfl⟩
            | false =>
             cases v1 : decide (last < x5) with
             | true =>
              cases z2 with
              | false =>
               go_wp2_with (first | go_skip | go_guarded)
               go_meet
               exact ⟨by rw [v1]; rfl, rfl⟩
              | true =>
               cases v2 : decide (x5 < z1) with
               | true =>
                go_wp2_with (first | go_skip | go_guarded)
                go_meet
                exact ⟨by rw [v1, v2]; rfl, rfl⟩
               | false =>
                go_wp2_with (first | go_skip | go_guarded)
                go_meet
                exact ⟨by rw [v1, v2]; rfl, rfl⟩
             | false =>
              go_wp2_with (first | go_skip | go_guarded)
              go_meet
              exact ⟨by rw [v1]; rfl, rfl⟩
           case rest =>
            obtain ⟨rfl, rfl⟩ := hcut
            cases hcd : ((first || decide (last < x5)) && (!z2 || decide (x5 < z1))) with
            | true =>
             have HN1 := Lib.hid (HNT.out.trans (if_pos hcd))
             go_wp2_with (first | go_skip | go_guarded)
             go_roundw
             case rel => exact ⟨t + 1, HT.out, by go_num, by rw [HN1.out], by rw [HN1.out], hx⟩
             case measure => have := HT.out; simp [intOf]; omega
            | false =>
             have HN1 := Lib.hid (HNT.out.trans (if_neg (by rw [hcd]; exact Bool.false_ne_true)))
             go_wp2_with (first | go_skip | go_guarded)
             go_roundw
             case rel => exact ⟨t + 1, HT.out, by go_num, by rw [HN1.out], by rw [HN1.out], hx⟩
             case measure => have := HT.out; simp [intOf]; omega
          ·have hnl3 : ¬ ((t : Int) < c.pn) := by omega
           rw [List.take_of_length_le (show c.places.length ≤ t by have := hpsl.out; omega)]
           have hBr := hB.e0 hx
           have hPr := hP.e0 hx
           have hRr := hR.e0 hx
           have hEr := hEb.e0 hx
           have hOr := hO.keep0 hx
           have hxr := hxw.trans hx (fun _ _ e => e.elim)
           go_upto_region 25 with (first | go_skip | go_guarded)
           clear hB hP hR hEb hO hxw hx p4
           have hmem : (⟨j0, j1, j2, j3, jg, j5, j6⟩, Value.slice GA gn gc) ∈ s.jobs := List.mem_of_getElem? HXI.out
           rcases HTD.out.next with ⟨hz, hrest⟩ | ⟨hz, r, hrest, htd2⟩
           ·have HZ := Lib.hid hz
            have HFIN := Lib.hid (show (Fsm.nodesUp c.places).foldl (Fsm.planStep ⟨j0, j1, j2, j3, jg, j5, j6⟩ c.places) (({ s.data with allocs := aL } : StoreD), true) = (({ s with AA := A, nA := n, cA := ca, allocs := al, next := nx } : StoreV).data, aB) by rw [HFO.out, hrest]; rfl)
            clear hz hrest
            have HPL := Lib.hid (Fsm.plan_go HJA.out HEA.out HPG.out (z := (({ s with AA := A, nA := n, cA := ca, allocs := al, next := nx } : StoreV).data, aB)) (by show (Fsm.nodesUp c.places).foldl (Fsm.planStep ⟨j0, j1, j2, j3, jg, j5, j6⟩ c.places) (({ s.data with allocs := Fsm.stops c.pj s.allocs c.stops } : StoreD), true) = _; rw [HSTP.out]; exact HFIN.out))
            rw [HZ.out]
            obtain ⟨gE2, _, hAE2, hobE2, hgbE2, _, hceE2, hputE⟩ := hOr.putE (show ({ s with AA := A, nA := n, cA := ca, allocs := al, next := nx } : StoreV).evals[k]? = some ⟨e0, e1, e2, e3⟩ from HEK.out)
            have hgg : gE = gE2 := by have h7 : s.AE = some ⟨gE2, 0, none⟩ := hAE2; rw [HAE.out] at h7; injection h7 with h7; injection h7
            subst hgg
            clear hAE2
            have c6 : wr.cell? ⟨w.heap.size, 6, none⟩ = some (.slice (some ⟨gE, 0, none⟩) s.nE s.cE) := by rw [← HAE.out]; exact hBr.cell 6
            have c0 : wr.cell? ⟨w.heap.size, 0, none⟩ = some (.int .i64 s.index) := hBr.cell 0
            have k2 : wr.cell? ⟨gE, k * 4 + 2, none⟩ = some (.int .i64 e2) := hceE2 2 _ rfl
            have k3 : wr.cell? ⟨gE, k * 4 + 3, none⟩ = some (.int .i64 e3) := hceE2 3 _ rfl
            have f2 : wr.frozen? ⟨gE, k * 4 + 2, none⟩ = false := hgbE2.frozen _
            have f3 : wr.frozen? ⟨gE, k * 4 + 3, none⟩ = false := hgbE2.frozen _
            have nB : gE ≠ w.heap.size := Blk.ne hgbE2 hBr (by decide)
            have nP : gE ≠ P := Blk.ne hgbE2 hPr (by decide)
            have nR : gE ≠ (w.heap.size + 1 + 1) := Blk.ne hgbE2 hRr (by decide)
            have nE : gE ≠ (w.heap.size + 1 + 1 + 1) := Blk.ne hgbE2 hEr (by decide)
            have hgE2 : base ≤ gE := own_ge hOr.e hobE2
            cases aB with
            | false =>
             have hO6 : OwnS base (wr.setCell ⟨gE, k * 4 + 3, none⟩ (.int .i64 s.index)) ({ s with AA := A, nA := n, cA := ca, allocs := al, next := nx, evals := (s.evals.set k ⟨e0, e1, e2, s.index⟩) } : StoreV) := hputE 3 (.int .i64 s.index) ⟨e0, e1, e2, s.index⟩ (by decide) rfl
             have hs6 : Ext (fun b => b = gE) wr (wr.setCell ⟨gE, k * 4 + 3, none⟩ (.int .i64 s.index)) := Ext.set1 _ _ _ _
             have hB6 : Blk (wr.setCell ⟨gE, k * 4 + 3, none⟩ (.int .i64 s.index)) w.heap.size 30 ({ s with AA := A, nA := n, cA := ca, allocs := al, next := nx, evals := (s.evals.set k ⟨e0, e1, e2, s.index⟩) } : StoreV).arr := hBr.ext hs6 (fun e => nB e.symm)
             have hP6 := hPr.ext hs6 (fun e => nP e.symm)
             have hR6 := hRr.ext hs6 (fun e => nR e.symm)
             have hE6 := hEr.ext hs6 (fun e => nE e.symm)
             have hx6 : Ext (RowB base w) w (wr.setCell ⟨gE, k * 4 + 3, none⟩ (.int .i64 s.index)) := hxr.setRow (RowB.of_blk hgbE2 (by decide) hgE2) _
             have HPF := Lib.hid (show Fsm.plan s.data c.d = (({ s with AA := A, nA := n, cA := ca, allocs := al, next := nx, evals := (s.evals.set k ⟨e0, e1, e2, s.index⟩) } : StoreV).data, ⟨35, s.index, []⟩) by rw [HPL.out]; simp only [Bool.not_false, if_true]; exact congrArg (fun ev => (({ ({ s with AA := A, nA := n, cA := ca, allocs := al, next := nx } : StoreV).data with evals := ev } : StoreD), (⟨35, s.index, []⟩ : ResultD))) (Fsm.turn1_set (f := fun e : EvalD => { e with index := s.index }) HEK.out HKP.out HKF.out))
             go_upto_region 32 with (first | go_skip | go_guarded)
             clear c6 c0 k2 k3 f2 f3 hputE hceE2
             generalize (wr.setCell ⟨gE, k * 4 + 3, none⟩ (.int .i64 s.index)) = w6 at hO6 hB6 hP6 hR6 hE6 hx6 ⊢
             refine zH (S := fun q => q = (w.heap.size + 1 + 1) ∨ q = (w.heap.size + 1 + 1 + 1)) (by kernel_rfl) (fun Wd hd hd0 => ?_)
             refine zT 0 (.agg ({ s with AA := A, nA := n, cA := ca, allocs := al, next := nx, evals := (s.evals.set k ⟨e0, e1, e2, s.index⟩) } : StoreV).arr) rfl (by kernel_rfl) (by rfl) hd (fun _ _ _ h => h) ?_ ?_
             ·intro W' hS'
              exact run_load_blk rfl STStore (by go_simp) (hB6.ext hS' (by omega)) rfl
             refine zT 1 (.pointer (some ⟨w.heap.size, 0, none⟩)) rfl (by kernel_rfl) (by rfl) hd (fun _ _ _ h => h) ?_ ?_
             ·intro W' hS'
              go_simp
             refine zT 2 (.int .i64 s.index) rfl (by kernel_rfl) (by rfl) hd (fun _ _ _ h => h) ?_ ?_
             ·intro W' hS'
              have q0 : W'.cell? ⟨w.heap.size, 0, none⟩ = some (.int .i64 s.index) := (hB6.ext hS' (by omega)).cell 0
              go_simp
             refine zT 3 (.agg (resArr 35 s.index)) rfl (by kernel_rfl) (by rfl) hd (fun _ _ _ h => h) ?_ ?_
             ·intro W' hS'
              go_simp
             simp only [Act.put, zA, zB, zC, zD, zE, zF]
             refine zO 4 (by kernel_rfl) ?_
             refine wpOp_store (p := (w.heap.size + 1 + 1)) (cs := ({ s with AA := A, nA := n, cA := ca, allocs := al, next := nx, evals := (s.evals.set k ⟨e0, e1, e2, s.index⟩) } : StoreV).arr) rfl (by rfl) rfl (by go_simp) (by go_simp) (hR6.e0 hd0) rfl STStore rfl rfl (fun w2 hR2 hx2 => ?_)
             have hd2 := hd.trans hx2 (fun q hq e => .inl e)
             refine ⟨hd2, ?_⟩
             simp only [Act.put, zA, zB, zC, zD, zE, zF]
             refine zO 5 (by kernel_rfl) ?_
             refine wpOp_store (p := (w.heap.size + 1 + 1 + 1)) (cs := (resArr 35 s.index)) rfl (by rfl) rfl (by go_simp) (by go_simp) ((hE6.e0 hd0).ext hx2 (fun e => absurd (show (w.heap.size + 1 + 1 + 1) = (w.heap.size + 1 + 1) from e) (by omega))) rfl STResult rfl rfl (fun w3 hE3 hx3' => ?_)
             have hx3 := hd2.trans hx3' (fun q hq e => .inr e)
             have hR3 := hR2.ext hx3' (fun e => absurd (show (w.heap.size + 1 + 1) = (w.heap.size + 1 + 1 + 1) from e) (by omega))
             refine ⟨hx3, wpAnyH_done (by kernel_rfl) ?_ _⟩
             simp only [Act.put, zA, zB, zC, zD, zE, zF]
             go_wp2
             exact bodyPost_ret (results_cell2 rfl STStore STResult rfl rfl hR3 rfl hE3 rfl) rfl ⟨({ s with AA := A, nA := n, cA := ca, allocs := al, next := nx, evals := (s.evals.set k ⟨e0, e1, e2, s.index⟩) } : StoreV), ⟨35, s.index, []⟩, rfl, hO6.keep hx3 (fun q e => by rcases e with rfl | rfl; exact ⟨_, _, hR6, by decide⟩; exact ⟨_, _, hE6, by decide⟩), HPF.out, rfl, hx6.trans hx3 (fun b hb e => by omega)⟩
            | true =>
             have hO6 : OwnS base (wr.setCell ⟨gE, k * 4 + 2, none⟩ (.int .i64 3)) ({ s with AA := A, nA := n, cA := ca, allocs := al, next := nx, evals := (s.evals.set k ⟨e0, e1, 3, e3⟩) } : StoreV) := hputE 2 (.int .i64 3) ⟨e0, e1, 3, e3⟩ (by decide) rfl
             have hs6 : Ext (fun b => b = gE) wr (wr.setCell ⟨gE, k * 4 + 2, none⟩ (.int .i64 3)) := Ext.set1 _ _ _ _
             have hB6 : Blk (wr.setCell ⟨gE, k * 4 + 2, none⟩ (.int .i64 3)) w.heap.size 30 ({ s with AA := A, nA := n, cA := ca, allocs := al, next := nx, evals := (s.evals.set k ⟨e0, e1, 3, e3⟩) } : StoreV).arr := hBr.ext hs6 (fun e => nB e.symm)
             have hP6 := hPr.ext hs6 (fun e => nP e.symm)
             have hR6 := hRr.ext hs6 (fun e => nR e.symm)
             have hE6 := hEr.ext hs6 (fun e => nE e.symm)
             have hx6 : Ext (RowB base w) w (wr.setCell ⟨gE, k * 4 + 2, none⟩ (.int .i64 3)) := hxr.setRow (RowB.of_blk hgbE2 (by decide) hgE2) _
             go_upto_region 34 with (first | go_skip | go_guarded)
             clear c6 c0 k2 k3 f2 f3 hputE hceE2
             generalize (wr.setCell ⟨gE, k * 4 + 2, none⟩ (.int .i64 3)) = w6 at hO6 hB6 hP6 hR6 hE6 hx6 hs6 ⊢
             have p5 : w6.cell? ⟨P, 5, none⟩ = some (.bool c.blocked) := hP6.cell 5
             cases hbl : c.blocked with
             | false =>
              have HPF := Lib.hid (show Fsm.plan s.data c.d = (({ s with AA := A, nA := n, cA := ca, allocs := al, next := nx, evals := (s.evals.set k ⟨e0, e1, 3, e3⟩) } : StoreV).data, ⟨0, s.index, []⟩) by rw [HPL.out]; simp only [Bool.not_true, Bool.false_eq_true, if_false]; rw [show c.d.plan.blocked = _ from hbl]; exact congrArg (fun ev => (({ ({ s with AA := A, nA := n, cA := ca, allocs := al, next := nx } : StoreV).data with evals := ev } : StoreD), (⟨0, s.index, []⟩ : ResultD))) ((Fsm.turn1_set (f := fun e : EvalD => { e with state := 3 }) HEK.out HKP.out HKF.out)))
              rw [hbl] at p5
              have HBL := Lib.hid hbl
              clear hbl
              go_upto_region 36 with (first | go_skip | go_guarded)
              refine zH (S := fun q => q = (w.heap.size + 1 + 1) ∨ q = (w.heap.size + 1 + 1 + 1)) (by kernel_rfl) (fun Wd hd hd0 => ?_)
              refine zT 0 (.agg ({ s with AA := A, nA := n, cA := ca, allocs := al, next := nx, evals := (s.evals.set k ⟨e0, e1, 3, e3⟩) } : StoreV).arr) rfl (by kernel_rfl) (by rfl) hd (fun _ _ _ h => h) ?_ ?_
              ·intro W' hS'
               exact run_load_blk rfl STStore (by go_simp) (hB6.ext hS' (by omega)) rfl
              refine zT 1 (.pointer (some ⟨w.heap.size, 0, none⟩)) rfl (by kernel_rfl) (by rfl) hd (fun _ _ _ h => h) ?_ ?_
              ·intro W' hS'
               go_simp
              refine zT 2 (.int .i64 s.index) rfl (by kernel_rfl) (by rfl) hd (fun _ _ _ h => h) ?_ ?_
              ·intro W' hS'
               have q0 : W'.cell? ⟨w.heap.size, 0, none⟩ = some (.int .i64 s.index) := (hB6.ext hS' (by omega)).cell 0
               go_simp
              refine zT 3 (.agg (resArr 0 s.index)) rfl (by kernel_rfl) (by rfl) hd (fun _ _ _ h => h) ?_ ?_
              ·intro W' hS'
               go_simp
              simp only [Act.put, zA, zB, zC, zD, zE, zF]
              refine zO 4 (by kernel_rfl) ?_
              refine wpOp_store (p := (w.heap.size + 1 + 1)) (cs := ({ s with AA := A, nA := n, cA := ca, allocs := al, next := nx, evals := (s.evals.set k ⟨e0, e1, 3, e3⟩) } : StoreV).arr) rfl (by rfl) rfl (by go_simp) (by go_simp) (hR6.e0 hd0) rfl STStore rfl rfl (fun w2 hR2 hx2 => ?_)
              have hd2 := hd.trans hx2 (fun q hq e => .inl e)
              refine ⟨hd2, ?_⟩
              simp only [Act.put, zA, zB, zC, zD, zE, zF]
              refine zO 5 (by kernel_rfl) ?_
              refine wpOp_store (p := (w.heap.size + 1 + 1 + 1)) (cs := (resArr 0 s.index)) rfl (by rfl) rfl (by go_simp) (by go_simp) ((hE6.e0 hd0).ext hx2 (fun e => absurd (show (w.heap.size + 1 + 1 + 1) = (w.heap.size + 1 + 1) from e) (by omega))) rfl STResult rfl rfl (fun w3 hE3 hx3' => ?_)
              have hx3 := hd2.trans hx3' (fun q hq e => .inr e)
              have hR3 := hR2.ext hx3' (fun e => absurd (show (w.heap.size + 1 + 1) = (w.heap.size + 1 + 1 + 1) from e) (by omega))
              refine ⟨hx3, wpAnyH_done (by kernel_rfl) ?_ _⟩
              simp only [Act.put, zA, zB, zC, zD, zE, zF]
              go_wp2
              exact bodyPost_ret (results_cell2 rfl STStore STResult rfl rfl hR3 rfl hE3 rfl) rfl ⟨({ s with AA := A, nA := n, cA := ca, allocs := al, next := nx, evals := (s.evals.set k ⟨e0, e1, 3, e3⟩) } : StoreV), ⟨0, s.index, []⟩, rfl, hO6.keep hx3 (fun q e => by rcases e with rfl | rfl; exact ⟨_, _, hR6, by decide⟩; exact ⟨_, _, hE6, by decide⟩), HPF.out, rfl, hx6.trans hx3 (fun b hb e => by omega)⟩
             | true =>
              have HPF := Lib.hid (show Fsm.plan s.data c.d = (({ s with AA := A, nA := n, cA := ca, allocs := al, next := nx, evals := ((s.evals.set k ⟨e0, e1, 3, e3⟩).set k ⟨e0, e1, 2, e3⟩) } : StoreV).data, ⟨0, s.index, []⟩) by rw [HPL.out]; simp only [Bool.not_true, Bool.false_eq_true, if_false]; rw [show c.d.plan.blocked = _ from hbl]; exact congrArg (fun ev => (({ ({ s with AA := A, nA := n, cA := ca, allocs := al, next := nx } : StoreV).data with evals := ev } : StoreD), (⟨0, s.index, []⟩ : ResultD))) ((Fsm.turn1_set (f := fun e : EvalD => { e with state := 2 }) HEK.out HKP.out HKF.out).trans (List.set_set ..).symm))
              rw [hbl] at p5
              have HBL := Lib.hid hbl
              clear hbl
              obtain ⟨gE3, _, hAE3, _, hgbE3, _, hceE3, hputE3⟩ := hO6.putE (show ({ s with AA := A, nA := n, cA := ca, allocs := al, next := nx, evals := (s.evals.set k ⟨e0, e1, 3, e3⟩) } : StoreV).evals[k]? = some ⟨e0, e1, 3, e3⟩ by show (s.evals.set k _)[k]? = _; rw [List.getElem?_set]; simp; exact (List.getElem?_eq_some_iff.1 HEK.out).1)
              have hgg : gE = gE3 := by have h7 : s.AE = some ⟨gE3, 0, none⟩ := hAE3; rw [HAE.out] at h7; injection h7 with h7; injection h7
              subst hgg
              clear hAE3
              have c6 : w6.cell? ⟨w.heap.size, 6, none⟩ = some (.slice (some ⟨gE, 0, none⟩) s.nE s.cE) := by rw [← HAE.out]; exact hB6.cell 6
              have k2 : w6.cell? ⟨gE, k * 4 + 2, none⟩ = some (.int .i64 3) := hceE3 2 _ rfl
              have f2 : w6.frozen? ⟨gE, k * 4 + 2, none⟩ = false := hgbE3.frozen _
              have hO7 : OwnS base (w6.setCell ⟨gE, k * 4 + 2, none⟩ (.int .i64 2)) ({ s with AA := A, nA := n, cA := ca, allocs := al, next := nx, evals := ((s.evals.set k ⟨e0, e1, 3, e3⟩).set k ⟨e0, e1, 2, e3⟩) } : StoreV) := hputE3 2 (.int .i64 2) ⟨e0, e1, 2, e3⟩ (by decide) rfl
              have hs7 : Ext (fun b => b = gE) w6 (w6.setCell ⟨gE, k * 4 + 2, none⟩ (.int .i64 2)) := Ext.set1 _ _ _ _
              have hB7 : Blk (w6.setCell ⟨gE, k * 4 + 2, none⟩ (.int .i64 2)) w.heap.size 30 ({ s with AA := A, nA := n, cA := ca, allocs := al, next := nx, evals := ((s.evals.set k ⟨e0, e1, 3, e3⟩).set k ⟨e0, e1, 2, e3⟩) } : StoreV).arr := hB6.ext hs7 (fun e => nB e.symm)
              have hR7 := hR6.ext hs7 (fun e => nR e.symm)
              have hE7 := hE6.ext hs7 (fun e => nE e.symm)
              have hx7 : Ext (RowB base w) w (w6.setCell ⟨gE, k * 4 + 2, none⟩ (.int .i64 2)) := hx6.setRow (RowB.of_blk hgbE3 (by decide) hgE2) _
              go_upto_region 36 with (first | go_skip | go_guarded)
              clear c6 k2 f2 p5 hputE3 hceE3 hO6 hB6 hP6 hR6 hE6 hx6 hs6 hs7
              generalize (w6.setCell ⟨gE, k * 4 + 2, none⟩ (.int .i64 2)) = w7 at hO7 hB7 hR7 hE7 hx7 ⊢
              have hO6 := hO7
              have hB6 := hB7
              have hR6 := hR7
              have hE6 := hE7
              have hx6 := hx7
              refine zH (S := fun q => q = (w.heap.size + 1 + 1) ∨ q = (w.heap.size + 1 + 1 + 1)) (by kernel_rfl) (fun Wd hd hd0 => ?_)
              refine zT 0 (.agg ({ s with AA := A, nA := n, cA := ca, allocs := al, next := nx, evals := ((s.evals.set k ⟨e0, e1, 3, e3⟩).set k ⟨e0, e1, 2, e3⟩) } : StoreV).arr) rfl (by kernel_rfl) (by rfl) hd (fun _ _ _ h => h) ?_ ?_
              ·intro W' hS'
               exact run_load_blk rfl STStore (by go_simp) (hB6.ext hS' (by omega)) rfl
              refine zT 1 (.pointer (some ⟨w.heap.size, 0, none⟩)) rfl (by kernel_rfl) (by rfl) hd (fun _ _ _ h => h) ?_ ?_
              ·intro W' hS'
               go_simp
              refine zT 2 (.int .i64 s.index) rfl (by kernel_rfl) (by rfl) hd (fun _ _ _ h => h) ?_ ?_
              ·intro W' hS'
               have q0 : W'.cell? ⟨w.heap.size, 0, none⟩ = some (.int .i64 s.index) := (hB6.ext hS' (by omega)).cell 0
               go_simp
              refine zT 3 (.agg (resArr 0 s.index)) rfl (by kernel_rfl) (by rfl) hd (fun _ _ _ h => h) ?_ ?_
              ·intro W' hS'
               go_simp
              simp only [Act.put, zA, zB, zC, zD, zE, zF]
              refine zO 4 (by kernel_rfl) ?_
              refine wpOp_store (p := (w.heap.size + 1 + 1)) (cs := ({ s with AA := A, nA := n, cA := ca, allocs := al, next := nx, evals := ((s.evals.set k ⟨e0, e1, 3, e3⟩).set k ⟨e0, e1, 2, e3⟩) } : StoreV).arr) rfl (by rfl) rfl (by go_simp) (by go_simp) (hR6.e0 hd0) rfl STStore rfl rfl (fun w2 hR2 hx2 => ?_)
              have hd2 := hd.trans hx2 (fun q hq e => .inl e)
              refine ⟨hd2, ?_⟩
              simp only [Act.put, zA, zB, zC, zD, zE, zF]
              refine zO 5 (by kernel_rfl) ?_
              refine wpOp_store (p := (w.heap.size + 1 + 1 + 1)) (cs := (resArr 0 s.index)) rfl (by rfl) rfl (by go_simp) (by go_simp) ((hE6.e0 hd0).ext hx2 (fun e => absurd (show (w.heap.size + 1 + 1 + 1) = (w.heap.size + 1 + 1) from e) (by omega))) rfl STResult rfl rfl (fun w3 hE3 hx3' => ?_)
              have hx3 := hd2.trans hx3' (fun q hq e => .inr e)
              have hR3 := hR2.ext hx3' (fun e => absurd (show (w.heap.size + 1 + 1) = (w.heap.size + 1 + 1 + 1) from e) (by omega))
              refine ⟨hx3, wpAnyH_done (by kernel_rfl) ?_ _⟩
              simp only [Act.put, zA, zB, zC, zD, zE, zF]
              go_wp2
              exact bodyPost_ret (results_cell2 rfl STStore STResult rfl rfl hR3 rfl hE3 rfl) rfl ⟨({ s with AA := A, nA := n, cA := ca, allocs := al, next := nx, evals := ((s.evals.set k ⟨e0, e1, 3, e3⟩).set k ⟨e0, e1, 2, e3⟩) } : StoreV), ⟨0, s.index, []⟩, rfl, hO6.keep hx3 (fun q e => by rcases e with rfl | rfl; exact ⟨_, _, hR6, by decide⟩; exact ⟨_, _, hE6, by decide⟩), HPF.out, rfl, hx6.trans hx3 (fun b hb e => by omega)⟩
           ·have hnl4 := Fsm.left_lt hz
            generalize Fsm.nextF first last c.places = z at hz hrest htd2 hnl4 ⊢
            obtain ⟨z1, z2⟩ := z
            have hz : z2 = true := hz
            subst hz
            have HLL := Lib.hid hnl4
            have HT2 := Lib.hid htd2
            have HFS := Lib.hid (show (Fsm.nodesUp c.places).foldl (Fsm.planStep ⟨j0, j1, j2, j3, jg, j5, j6⟩ c.places) (({ s.data with allocs := aL } : StoreD), true) = r.foldl (Fsm.planStep ⟨j0, j1, j2, j3, jg, j5, j6⟩ c.places) (Fsm.planStep ⟨j0, j1, j2, j3, jg, j5, j6⟩ c.places (({ s with AA := A, nA := n, cA := ca, allocs := al, next := nx } : StoreV).data, aB) z1) by rw [HFO.out, hrest]; rfl)
            clear hrest htd2 hnl4 HTD HFO
            simp only []
            obtain ⟨gJ2, _, hAJ2, _, hgbJ2, _, hceJ2, _⟩ := hOr.putJ (show ({ s with AA := A, nA := n, cA := ca, allocs := al, next := nx } : StoreV).jobs[i]? = some (⟨j0, j1, j2, j3, jg, j5, j6⟩, Value.slice GA gn gc) from HXI.out)
            have hgg : gJ = gJ2 := by have h7 : s.AJ = some ⟨gJ2, 0, none⟩ := hAJ2; rw [HAJ.out] at h7; injection h7 with h7; injection h7
            subst hgg
            clear hAJ2
            have hGr : Sl wr 3 GA gn (jg.map GroupD.cells) := by obtain ⟨A9, n9, c9, e9, hs9, _, _⟩ := (hOr.j.grp _ hmem).sl; injection e9 with e1 e2 e3; subst e1; subst e2; exact hs9
            have HJC := Lib.hid (show ∀ j u, (#[.int .i64 j0, .int .i64 j1, .int .i64 j2, .int .i64 j3, .slice GA gn gc, .int .i64 j5, .bool j6] : Array Value).toList[j]? = some u → wr.cell? ⟨gJ, i * 7 + j, none⟩ = some u from hceJ2)
            have nJ : gJ ≠ w.heap.size := Blk.ne hgbJ2 hBr (by decide)
            clear hceJ2 hgbJ2
            have c2 : wr.cell? ⟨w.heap.size, 2, none⟩ = some (.slice (some ⟨gJ, 0, none⟩) s.nJ s.cJ) := by rw [← HAJ.out]; exact hBr.cell 2
            go_upto_region 27 with (first | go_skip | go_guarded)
            refine wp_region_held (S := fun W' => Ext (fun q => q = w.heap.size) wr W' ∧ W'.cell? ⟨w.heap.size, 2, none⟩ = some (.slice (some ⟨gJ, 0, none⟩) s.nJ s.cJ)) (by kernel_rfl) ?_
            have hd0 : Ext Nothing wr wr.drew := Ext.drew (Ext.refl _ _)
            have hd : Ext (fun q => q = w.heap.size) wr wr.drew ∧ wr.drew.cell? ⟨w.heap.size, 2, none⟩ = some (.slice (some ⟨gJ, 0, none⟩) s.nJ s.cJ) := ⟨hd0.mono (fun _ _ e => e.elim), hd0.c0 c2⟩
            change wpAnyH _ _ _ _ _ _ _ _ wr.drew
            generalize wr.drew = Wd at hd hd0 ⊢
            refine zT 1 (.pointer (some ⟨w.heap.size, 2, none⟩)) rfl (by kernel_rfl) (by rfl) hd (fun _ _ _ h => h) ?_ ?_
            ·intro W' hS'
             go_simp
            refine zT 2 (.slice (some ⟨gJ, 0, none⟩) s.nJ s.cJ) rfl (by kernel_rfl) (by rfl) hd (fun _ _ _ h => h) ?_ ?_
            ·intro W' hS'
             have q3 := hS'.2
             go_simp
            refine zT 3 (.int .i64 (i : Int)) rfl (by kernel_rfl) (by rfl) hd (fun _ _ _ h => h) ?_ ?_
            ·intro W' hS'
             go_simp
            refine zT 4 (.pointer (some ⟨gJ, i * 7, none⟩)) rfl (by kernel_rfl) (by rfl) hd (fun _ _ _ h => h) ?_ ?_
            ·intro W' hS'
             go_simp
            refine zT 5 (.agg #[.int .i64 j0, .int .i64 j1, .int .i64 j2, .int .i64 j3, .slice GA gn gc, .int .i64 j5, .bool j6]) rfl (by kernel_rfl) (by rfl) hd (fun _ _ _ h => h) ?_ ?_
            ·intro W' hS'
             exact run_load_struct (sz := 7) (b := gJ) (off := i * 7) rfl STJob (by go_simp) (fun j u hu => hS'.1.cell (HJC.out j u hu) nJ) rfl
            refine zT 6 (.int .i64 z1) rfl (by kernel_rfl) (by rfl) hd (fun _ _ _ h => h) ?_ ?_
            ·intro W' hS'
             go_simp
            refine zT 7 (.pointer (some ⟨P, 4, none⟩)) rfl (by kernel_rfl) (by rfl) hd (fun _ _ _ h => h) ?_ ?_
            ·intro W' hS'
             go_simp
            refine zT 8 (.slice c.PA c.pn c.pc) rfl (by kernel_rfl) (by rfl) hd (fun _ _ _ h => h) ?_ ?_
            ·intro W' hS'
             have q4 : W'.cell? ⟨P, 4, none⟩ = some (.slice c.PA c.pn c.pc) := (hPr.ext hS'.1 (fun e => absurd (show P = w.heap.size from e) (by omega))).cell 4
             go_simp
            simp only [Act.put, zA, zB, zC, zD, zE, zF]
            have hOq := hOr.keep0 hd0
            have hBq := hBr.e0 hd0
            have hxq := hxr.trans hd0 (fun _ _ e => e.elim)
            have hbq : base ≤ Wd.heap.size := by have := hxq.size; omega
            have hGq := hGr.ext0 hd0
            have hLq := (hc.keepR hxq).p
            refine zO 0 (by kernel_rfl) ?_
            refine wpOp_val (v := .agg ({ s with AA := A, nA := n, cA := ca, allocs := al, next := nx } : StoreV).arr) (w' := Wd) rfl (by rfl) (by exact run_load_blk rfl STStore (by go_simp) hBq rfl) ⟨hd, ?_⟩
            (try simp only [Act.put, zA, zB, zC, zD, zE, zF])
            refine zO 9 (by kernel_rfl) ?_
            refine wpOp_call (f := 63) (args := #[.agg ({ s with AA := A, nA := n, cA := ca, allocs := al, next := nx } : StoreV).arr, .agg #[.int .i64 j0, .int .i64 j1, .int .i64 j2, .int .i64 j3, .slice GA gn gc, .int .i64 j5, .bool j6], .int .i64 z1, .slice c.PA c.pn c.pc]) rfl (by rfl) (by go_simp) ((refPlaces base ({ s with AA := A, nA := n, cA := ca, allocs := al, next := nx } : StoreV) j0 j1 j2 j3 jg j5 j6 GA gn gc z1 c.PA c.pn c.pc c.places Wd hOq hbq hN hJ hal1 hGq hgn hLq hpn).mono ?_)
            rintro e w2 ⟨s3, rfl, hO3, hD3, ⟨A3, m3, c3, al3, nx3, rfl, hl3⟩, hx2⟩
            have hB2 := hBq.e0 hx2
            have hd02 := hd0.tr hx2
            have hd2 : Ext (fun q => q = w.heap.size) wr w2 ∧ w2.cell? ⟨w.heap.size, 2, none⟩ = some (.slice (some ⟨gJ, 0, none⟩) s.nJ s.cJ) := ⟨hd02.mono (fun _ _ e => e.elim), hd02.c0 c2⟩
            generalize hpk : (Fsm.places ({ s with AA := A, nA := n, cA := ca, allocs := al, next := nx } : StoreV).data ⟨j0, j1, j2, j3, jg, j5, j6⟩ z1 c.places).2 = pk
            have HFT := Lib.hid (show (Fsm.nodesUp c.places).foldl (Fsm.planStep ⟨j0, j1, j2, j3, jg, j5, j6⟩ c.places) (({ s.data with allocs := aL } : StoreD), true) = r.foldl (Fsm.planStep ⟨j0, j1, j2, j3, jg, j5, j6⟩ c.places) (({ s with AA := A3, nA := m3, cA := c3, allocs := al3, next := nx3 } : StoreV).data, aB && pk) by rw [HFS.out]; unfold Fsm.planStep; rw [hD3, ← hpk])
            clear hpk
            refine ⟨_, rfl, hd2, ?_⟩
            simp only [Act.put, zA, zB, zC, zD, zE, zF]
            refine zO 10 (by kernel_rfl) ?_
            refine wpOp_val (v := .tuple #[.agg ({ s with AA := A3, nA := m3, cA := c3, allocs := al3, next := nx3 } : StoreV).arr, .bool pk]) (w' := w2) rfl (by rfl) (by go_simp) ⟨hd2, ?_⟩
            (try simp only [Act.put, zA, zB, zC, zD, zE, zF])
            refine zT 11 (.agg ({ s with AA := A3, nA := m3, cA := c3, allocs := al3, next := nx3 } : StoreV).arr) rfl (by kernel_rfl) (by rfl) hd2 (fun _ _ _ h => h) ?_ ?_
            ·intro W' hS'
             go_simp
            refine zT 12 (.bool pk) rfl (by kernel_rfl) (by rfl) hd2 (fun _ _ _ h => h) ?_ ?_
            ·intro W' hS'
             go_simp
            simp only [Act.put, zA, zB, zC, zD, zE, zF]
            refine zO 13 (by kernel_rfl) ?_
            refine wpOp_store (p := w.heap.size) (cs := ({ s with AA := A3, nA := m3, cA := c3, allocs := al3, next := nx3 } : StoreV).arr) rfl (by rfl) rfl (by go_simp) (by go_simp) hB2 rfl STStore rfl rfl (fun w5 hB5 hx5 => ?_)
            have hd5 : Ext (fun q => q = w.heap.size) wr w5 ∧ w5.cell? ⟨w.heap.size, 2, none⟩ = some (.slice (some ⟨gJ, 0, none⟩) s.nJ s.cJ) := ⟨hd2.1.trans hx5 (fun q hq e => e), by rw [← HAJ.out]; exact hB5.cell 2⟩
            refine ⟨hd5, ?_⟩
            simp only [Act.put, zA, zB, zC, zD, zE, zF]
            refine zO 14 (by kernel_rfl) ?_
            refine wpOp_val (v := .bool pk) (w' := w5) rfl (by rfl) (by go_simp) ⟨hd5, ?_⟩
            (try simp only [Act.put, zA, zB, zC, zD, zE, zF])
            refine wpAnyH_done (by kernel_rfl) ?_ _
            (try simp only [Act.put, zA, zB, zC, zD, zE, zF])
            have hxr5 : Ext (fun q => q = w.heap.size) wr w5 := hd5.1
            have hO5 := hO3.keep hx5 (Apart.one hB2 (by decide))
            have hP5 := hPr.ext hxr5 (fun e => absurd (show P = w.heap.size from e) (by omega))
            have hR5 := hRr.ext hxr5 (fun e => absurd (show (w.heap.size + 1 + 1) = w.heap.size from e) (by omega))
            have hE5 := hEr.ext hxr5 (fun e => absurd (show (w.heap.size + 1 + 1 + 1) = w.heap.size from e) (by omega))
            have hx5w : Ext (RowB base w) w w5 := hxr.trans hxr5 (fun b hb e => absurd (show b = w.heap.size from e) (by omega))
            have HL3 := Lib.hid (show al3.length ≤ 1048576 by rcases hl3 with h9 | h9; omega; have : al3.length ≤ al.length := h9; omega)
            clear hd hd0 hd2 hd02 hd5 hOq hBq hGq hLq hl3 hD3 c2
            cases aB with
            | false =>
             go_wp2_with (first | go_skip | go_guarded)
             go_roundw
             case rel => exact ⟨r, A3, m3, c3, al3, nx3, false, z1, false, rfl, rfl, rfl, HT2.out, hO5, HFT.out, HL3.out, hB5, hP5, hR5, hE5, hx5w⟩
             case measure => exact HLL.out
            | true =>
             go_wp2_with (first | go_skip | go_guarded)
             go_roundw
             case rel => exact ⟨r, A3, m3, c3, al3, nx3, pk, z1, false, rfl, rfl, rfl, HT2.out, hO5, HFT.out, HL3.out, hB5, hP5, hR5, hE5, hx5w⟩
             case measure => exact HLL.out
end Go.Proofs.YtlpfcmnnmdhaoaaGreat
