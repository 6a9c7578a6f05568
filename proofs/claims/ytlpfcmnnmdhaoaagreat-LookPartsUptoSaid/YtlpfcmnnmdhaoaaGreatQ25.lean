/- Parts of the proof: RefBeat -/
import Derived.Deep.CutRange
import Derived.Test.YtlpfcmnnmdhaoaaGreatQ22
import Derived.Test.YtlpfcmnnmdhaoaaGreatQ15
import Derived.Test.YtlpfcmnnmdhaoaaGreatQ05
namespace Go.Proofs.YtlpfcmnnmdhaoaaGreat
set_option linter.unusedVariables false
set_option linter.unusedSimpArgs false
set_option linter.unusedSectionVars false
open Go.RowKit
theorem STReport : StructT Tryz.prog 103 2 := .of (by kernel_rfl)
def ResI (base : Nat) (w : World) (rv : Value) (l : List AllocD) : Prop := ∃ A c, rv = .slice A l.length c ∧ (l = [] ∨ w.ownsRow base 58 11 (.slice A l.length c) l.length (l.flatMap AllocD.cells))
theorem ResI.nil (base : Nat) (w : World) : ResI base w (.slice none 0 0) [] := ⟨none, 0, rfl, .inl rfl⟩
theorem ResI.nil' (base : Nat) (w : World) (A : Option Addr) (c : Nat) : ResI base w (.slice A 0 c) [] := ⟨A, c, rfl, .inl rfl⟩
theorem ResI.keep {S : Nat → Prop} {base : Nat} {w w' : World} {rv : Value} {l : List AllocD} (h : ResI base w rv l) (hx : Ext S w w') (hS : Apart w S [58]) : ResI base w' rv l := by
 obtain ⟨A, c, e, h⟩ := h
 exact ⟨A, c, e, h.imp id (fun h => own_apart h hx hS)⟩
theorem ResI.base {b b' : Nat} {w : World} {rv : Value} {l : List AllocD} (h : ResI b' w rv l) (hb : b ≤ b') : ResI b w rv l := by
 obtain ⟨A, c, e, h⟩ := h
 exact ⟨A, c, e, h.imp id (fun h => own_base h hb)⟩
set_option maxRecDepth 20000 in
set_option maxHeartbeats 16000000 in
theorem refBeat (base : Nat) (s : StoreV) (c : CmdV) (w : World) (h : OwnS base w s) (hc : CmdI base w c) (hb : base ≤ w.heap.size) (hJ : s.jobs.length ≤ 1048576) (hN : s.nodes.length ≤ 1048576) (hA : s.allocs.length ≤ 1048576) (hDl : s.deploys.length ≤ 1048576) (hS : s.stable.length ≤ 33554432) (hE : s.evals.length ≤ 16777216) :
  Calls Tryz.prog 31 #[.agg s.arr, .agg c.arr] w fun e w' => ∃ s' r rv, e = .returned (.tuple #[.agg s'.arr, .agg #[.int .i64 r.code, .int .i64 r.value, rv]]) ∧ OwnS base w' s' ∧ Fsm.beat s.data c.d = (s'.data, r) ∧ ResI base w' rv r.allocs ∧ Ext (RowB base w) w w' := by
 obtain ⟨hxW, hBW, hCW, hRW, hEW⟩ := enterW w s.arr c.arr #[.int .i64 0, .int .i64 0, .slice none 0 0, .slice none 0 0, .slice none 0 0, .slice none 0 0, .slice none 0 0, .slice none 0 0, .slice none 0 0] #[.int .i64 0, .int .i64 0, .slice none 0 0]
 have hnl := Lib.hid h.nl
 have hrl := Lib.hid hc.r.len
 have hnN : s.nN ≤ 67108864 := by have := h.nl; omega
 by_cases q1 : 64 < c.rn
 ·have HF := Lib.hid (show Fsm.beat s.data c.d = (s.data, ⟨1, 0, []⟩) by unfold Fsm.beat; rw [if_pos (show (decide (64 < c.d.reports.length) || decide (c.d.node.seq < 1) || decide (Fsm.big40 < c.d.node.seq)) = true from by rw [show decide (64 < c.d.reports.length) = true from by simp; have := hrl.out; show 64 < c.reports.length; omega]; rfl)]; rfl)
  have e1 : decide (64 < (c.rn : Int)) = true := by simp; omega
  go_enter Tryz.func31, Tryz.ntmps31
  go_upto_region 1 with fail
  generalize ((((w.alloc (.cells s.arr 30)).alloc (.cells c.arr 51)).alloc (.cells #[.int .i64 0, .int .i64 0, .slice none 0 0, .slice none 0 0, .slice none 0 0, .slice none 0 0, .slice none 0 0, .slice none 0 0, .slice none 0 0] 30)).alloc (.cells #[.int .i64 0, .int .i64 0, .slice none 0 0] 34)) = W at hxW hBW hCW hRW hEW ⊢
  have hzW : w.heap.size + 1 + 1 + 1 < W.heap.size := hEW.lt
  have hcn : ∀ j u, c.narr.toList[j]? = some u → W.cell? ⟨w.heap.size + 1, 10 + j, none⟩ = some u := fun j u hu => by rw [hCW.cell]; exact c.ncell j u hu
  have c18 : W.cell? ⟨w.heap.size + 1, 18, none⟩ = some (.slice c.RA c.rn c.rc) := hCW.cell 18
  have c17 : W.cell? ⟨w.heap.size + 1, 17, none⟩ = some (.int .i64 c.node.seq) := hCW.cell 17
  go_upto_region 2 with (first | go_skip | go_guarded)
  refine zH (S := fun q => q = (w.heap.size + 1 + 1) ∨ q = (w.heap.size + 1 + 1 + 1)) (by kernel_rfl) (fun Wd hd hd0 => ?_)
  refine zT 0 (.agg s.arr) rfl (by kernel_rfl) (by rfl) hd (fun _ _ _ h => h) ?_ ?_
  ·intro W' hS'
   exact run_load_blk rfl STStore (by go_simp) (hBW.ext hS' (by omega)) rfl
  simp only [Act.put, zA, zB, zC, zD, zE, zF]
  refine zO 1 (by kernel_rfl) ?_
  refine wpOp_call (f := 16) (args := #[.int .i64 1]) rfl (by rfl) (by go_simp) ((refNo 1 Wd).mono ?_)
  rintro e wn ⟨rfl, hxn⟩
  have hd1 := hd.trans hxn (fun _ _ e => e.elim)
  have hd01 := hd0.tr hxn
  refine ⟨_, rfl, hd1, ?_⟩
  simp only [Act.put, zA, zB, zC, zD, zE, zF]
  refine zO 2 (by kernel_rfl) ?_
  refine wpOp_store (p := (w.heap.size + 1 + 1)) (cs := s.arr) rfl (by rfl) rfl (by go_simp) (by go_simp) (hRW.e0 hd01) rfl STStore rfl rfl (fun w2 hR2 hx2 => ?_)
  have hd2 := hd1.trans hx2 (fun q hq e => .inl e)
  refine ⟨hd2, ?_⟩
  simp only [Act.put, zA, zB, zC, zD, zE, zF]
  refine zO 3 (by kernel_rfl) ?_
  refine wpOp_store (p := (w.heap.size + 1 + 1 + 1)) (cs := resArr 1 0) rfl (by rfl) rfl (by go_simp) (by go_simp) ((hEW.e0 hd01).ext hx2 (fun e => absurd (show (w.heap.size + 1 + 1 + 1) = (w.heap.size + 1 + 1) from e) (by omega))) rfl STResult rfl rfl (fun w3 hE3 hx3' => ?_)
  have hx3 := hd2.trans hx3' (fun q hq e => .inr e)
  have hR3 := hR2.ext hx3' (fun e => absurd (show (w.heap.size + 1 + 1) = (w.heap.size + 1 + 1 + 1) from e) (by omega))
  refine ⟨hx3, wpAnyH_done (by kernel_rfl) ?_ _⟩
  simp only [Act.put, zA, zB, zC, zD, zE, zF]
  go_wp2
  have hxx : Ext Nothing w w3 := hxW.trans hx3 (fun b hb e => by omega)
  exact bodyPost_ret (results_cell2 rfl STStore STResult rfl rfl hR3 rfl hE3 rfl) rfl ⟨s, ⟨1, 0, []⟩, .slice none 0 0, rfl, h.keep0 hxx, HF.out, ResI.nil _ _, hxx.mono (fun _ _ e => e.elim)⟩
 ·have e1 : decide (64 < (c.rn : Int)) = false := by simp; omega
  have d1 : decide (64 < c.d.reports.length) = false := by simp; have := hrl.out; show c.reports.length ≤ 64; omega
  by_cases q2 : c.node.seq < 1
  ·have e2 : decide (c.node.seq < 1) = true := by simpa using q2
   have HF := Lib.hid (show Fsm.beat s.data c.d = (s.data, ⟨1, 0, []⟩) by unfold Fsm.beat; rw [if_pos (show (decide (64 < c.d.reports.length) || decide (c.d.node.seq < 1) || decide (Fsm.big40 < c.d.node.seq)) = true from by rw [show decide (c.d.node.seq < 1) = true from e2]; simp)]; rfl)
   go_enter Tryz.func31, Tryz.ntmps31
   go_upto_region 1 with fail
   generalize ((((w.alloc (.cells s.arr 30)).alloc (.cells c.arr 51)).alloc (.cells #[.int .i64 0, .int .i64 0, .slice none 0 0, .slice none 0 0, .slice none 0 0, .slice none 0 0, .slice none 0 0, .slice none 0 0, .slice none 0 0] 30)).alloc (.cells #[.int .i64 0, .int .i64 0, .slice none 0 0] 34)) = W at hxW hBW hCW hRW hEW ⊢
   have hzW : w.heap.size + 1 + 1 + 1 < W.heap.size := hEW.lt
   have hcn : ∀ j u, c.narr.toList[j]? = some u → W.cell? ⟨w.heap.size + 1, 10 + j, none⟩ = some u := fun j u hu => by rw [hCW.cell]; exact c.ncell j u hu
   have c18 : W.cell? ⟨w.heap.size + 1, 18, none⟩ = some (.slice c.RA c.rn c.rc) := hCW.cell 18
   have c17 : W.cell? ⟨w.heap.size + 1, 17, none⟩ = some (.int .i64 c.node.seq) := hCW.cell 17
   go_upto_region 2 with (first | go_skip | go_guarded)
   refine zH (S := fun q => q = (w.heap.size + 1 + 1) ∨ q = (w.heap.size + 1 + 1 + 1)) (by kernel_rfl) (fun Wd hd hd0 => ?_)
   refine zT 0 (.agg s.arr) rfl (by kernel_rfl) (by rfl) hd (fun _ _ _ h => h) ?_ ?_
   ·intro W' hS'
    exact run_load_blk rfl STStore (by go_simp) (hBW.ext hS' (by omega)) rfl
   simp only [Act.put, zA, zB, zC, zD, zE, zF]
   refine zO 1 (by kernel_rfl) ?_
   refine wpOp_call (f := 16) (args := #[.int .i64 1]) rfl (by rfl) (by go_simp) ((refNo 1 Wd).mono ?_)
   rintro e wn ⟨rfl, hxn⟩
   have hd1 := hd.trans hxn (fun _ _ e => e.elim)
   have hd01 := hd0.tr hxn
   refine ⟨_, rfl, hd1, ?_⟩
   simp only [Act.put, zA, zB, zC, zD, zE, zF]
   refine zO 2 (by kernel_rfl) ?_
   refine wpOp_store (p := (w.heap.size + 1 + 1)) (cs := s.arr) rfl (by rfl) rfl (by go_simp) (by go_simp) (hRW.e0 hd01) rfl STStore rfl rfl (fun w2 hR2 hx2 => ?_)
   have hd2 := hd1.trans hx2 (fun q hq e => .inl e)
   refine ⟨hd2, ?_⟩
   simp only [Act.put, zA, zB, zC, zD, zE, zF]
   refine zO 3 (by kernel_rfl) ?_
   refine wpOp_store (p := (w.heap.size + 1 + 1 + 1)) (cs := resArr 1 0) rfl (by rfl) rfl (by go_simp) (by go_simp) ((hEW.e0 hd01).ext hx2 (fun e => absurd (show (w.heap.size + 1 + 1 + 1) = (w.heap.size + 1 + 1) from e) (by omega))) rfl STResult rfl rfl (fun w3 hE3 hx3' => ?_)
   have hx3 := hd2.trans hx3' (fun q hq e => .inr e)
   have hR3 := hR2.ext hx3' (fun e => absurd (show (w.heap.size + 1 + 1) = (w.heap.size + 1 + 1 + 1) from e) (by omega))
   refine ⟨hx3, wpAnyH_done (by kernel_rfl) ?_ _⟩
   simp only [Act.put, zA, zB, zC, zD, zE, zF]
   go_wp2
   have hxx : Ext Nothing w w3 := hxW.trans hx3 (fun b hb e => by omega)
   exact bodyPost_ret (results_cell2 rfl STStore STResult rfl rfl hR3 rfl hE3 rfl) rfl ⟨s, ⟨1, 0, []⟩, .slice none 0 0, rfl, h.keep0 hxx, HF.out, ResI.nil _ _, hxx.mono (fun _ _ e => e.elim)⟩
  ·have e2 : decide (c.node.seq < 1) = false := by simpa using q2
   by_cases q3 : 1099511627776 < c.node.seq
   ·have e3 : decide (1099511627776 < c.node.seq) = true := by simpa using q3
    have HF := Lib.hid (show Fsm.beat s.data c.d = (s.data, ⟨1, 0, []⟩) by unfold Fsm.beat; rw [if_pos (show (decide (64 < c.d.reports.length) || decide (c.d.node.seq < 1) || decide (Fsm.big40 < c.d.node.seq)) = true from by rw [show decide (Fsm.big40 < c.d.node.seq) = true from e3]; simp)]; rfl)
    go_enter Tryz.func31, Tryz.ntmps31
    go_upto_region 1 with fail
    generalize ((((w.alloc (.cells s.arr 30)).alloc (.cells c.arr 51)).alloc (.cells #[.int .i64 0, .int .i64 0, .slice none 0 0, .slice none 0 0, .slice none 0 0, .slice none 0 0, .slice none 0 0, .slice none 0 0, .slice none 0 0] 30)).alloc (.cells #[.int .i64 0, .int .i64 0, .slice none 0 0] 34)) = W at hxW hBW hCW hRW hEW ⊢
    have hzW : w.heap.size + 1 + 1 + 1 < W.heap.size := hEW.lt
    have hcn : ∀ j u, c.narr.toList[j]? = some u → W.cell? ⟨w.heap.size + 1, 10 + j, none⟩ = some u := fun j u hu => by rw [hCW.cell]; exact c.ncell j u hu
    have c18 : W.cell? ⟨w.heap.size + 1, 18, none⟩ = some (.slice c.RA c.rn c.rc) := hCW.cell 18
    have c17 : W.cell? ⟨w.heap.size + 1, 17, none⟩ = some (.int .i64 c.node.seq) := hCW.cell 17
    go_upto_region 2 with (first | go_skip | go_guarded)
    refine zH (S := fun q => q = (w.heap.size + 1 + 1) ∨ q = (w.heap.size + 1 + 1 + 1)) (by kernel_rfl) (fun Wd hd hd0 => ?_)
    refine zT 0 (.agg s.arr) rfl (by kernel_rfl) (by rfl) hd (fun _ _ _ h => h) ?_ ?_
    ·intro W' hS'
     exact run_load_blk rfl STStore (by go_simp) (hBW.ext hS' (by omega)) rfl
    simp only [Act.put, zA, zB, zC, zD, zE, zF]
    refine zO 1 (by kernel_rfl) ?_
    refine wpOp_call (f := 16) (args := #[.int .i64 1]) rfl (by rfl) (by go_simp) ((refNo 1 Wd).mono ?_)
    rintro e wn ⟨rfl, hxn⟩
    have hd1 := hd.trans hxn (fun _ _ e => e.elim)
    have hd01 := hd0.tr hxn
    refine ⟨_, rfl, hd1, ?_⟩
    simp only [Act.put, zA, zB, zC, zD, zE, zF]
    refine zO 2 (by kernel_rfl) ?_
    refine wpOp_store (p := (w.heap.size + 1 + 1)) (cs := s.arr) rfl (by rfl) rfl (by go_simp) (by go_simp) (hRW.e0 hd01) rfl STStore rfl rfl (fun w2 hR2 hx2 => ?_)
    have hd2 := hd1.trans hx2 (fun q hq e => .inl e)
    refine ⟨hd2, ?_⟩
    simp only [Act.put, zA, zB, zC, zD, zE, zF]
    refine zO 3 (by kernel_rfl) ?_
    refine wpOp_store (p := (w.heap.size + 1 + 1 + 1)) (cs := resArr 1 0) rfl (by rfl) rfl (by go_simp) (by go_simp) ((hEW.e0 hd01).ext hx2 (fun e => absurd (show (w.heap.size + 1 + 1 + 1) = (w.heap.size + 1 + 1) from e) (by omega))) rfl STResult rfl rfl (fun w3 hE3 hx3' => ?_)
    have hx3 := hd2.trans hx3' (fun q hq e => .inr e)
    have hR3 := hR2.ext hx3' (fun e => absurd (show (w.heap.size + 1 + 1) = (w.heap.size + 1 + 1 + 1) from e) (by omega))
    refine ⟨hx3, wpAnyH_done (by kernel_rfl) ?_ _⟩
    simp only [Act.put, zA, zB, zC, zD, zE, zF]
    go_wp2
    have hxx : Ext Nothing w w3 := hxW.trans hx3 (fun b hb e => by omega)
    exact bodyPost_ret (results_cell2 rfl STStore STResult rfl rfl hR3 rfl hE3 rfl) rfl ⟨s, ⟨1, 0, []⟩, .slice none 0 0, rfl, h.keep0 hxx, HF.out, ResI.nil _ _, hxx.mono (fun _ _ e => e.elim)⟩
   ·have e3 : decide (1099511627776 < c.node.seq) = false := by simpa using q3
    have HG := Lib.hid (show (decide (64 < c.d.reports.length) || decide (c.d.node.seq < 1) || decide (Fsm.big40 < c.d.node.seq)) = false by rw [d1, show decide (c.d.node.seq < 1) = false from e2, show decide (Fsm.big40 < c.d.node.seq) = false from e3]; rfl)
    have HGN := Lib.hid (show ¬ (decide (64 < c.d.reports.length) || decide (c.d.node.seq < 1) || decide (Fsm.big40 < c.d.node.seq)) = true by rw [HG.out]; exact Bool.false_ne_true)
    clear d1
    rcases idx_cases (fun x : NodD => x.id == c.node.id) s.nodes with ⟨hi, hf, _⟩ | ⟨i, x, hi, hxi, hp, hf, hfirst⟩
    ·have hkn : knownF s.data c.node = (0, 31) := by unfold knownF; rw [show Fsm.nodeAt s.data c.node.id = none from hf]
     have HF := Lib.hid (show Fsm.beat s.data c.d = (s.data, ⟨31, 0, []⟩) by unfold Fsm.beat; rw [if_neg HGN.out, show Fsm.nodeAt s.data c.d.node.id = none from hf]; rfl)
     clear hi hf
     have HK1 := Lib.hid (show (knownF s.data c.node).1 = 0 by rw [hkn])
     have HK2 := Lib.hid (show (knownF s.data c.node).2 = 31 by rw [hkn])
     clear hkn
     go_enter Tryz.func31, Tryz.ntmps31
     go_upto_region 1 with fail
     generalize ((((w.alloc (.cells s.arr 30)).alloc (.cells c.arr 51)).alloc (.cells #[.int .i64 0, .int .i64 0, .slice none 0 0, .slice none 0 0, .slice none 0 0, .slice none 0 0, .slice none 0 0, .slice none 0 0, .slice none 0 0] 30)).alloc (.cells #[.int .i64 0, .int .i64 0, .slice none 0 0] 34)) = W at hxW hBW hCW hRW hEW ⊢
     have hzW : w.heap.size + 1 + 1 + 1 < W.heap.size := hEW.lt
     have hcn : ∀ j u, c.narr.toList[j]? = some u → W.cell? ⟨w.heap.size + 1, 10 + j, none⟩ = some u := fun j u hu => by rw [hCW.cell]; exact c.ncell j u hu
     have c18 : W.cell? ⟨w.heap.size + 1, 18, none⟩ = some (.slice c.RA c.rn c.rc) := hCW.cell 18
     have c17 : W.cell? ⟨w.heap.size + 1, 17, none⟩ = some (.int .i64 c.node.seq) := hCW.cell 17
     go_upto_region 5 with (first | go_skip | go_guarded | ((with_reducible refine isW ?_); refine wpList_load_blk rfl 30 _ rfl STStore w.heap.size rfl s.arr (show Blk _ _ 30 _ from hBW) rfl ?_) | ((with_reducible refine isW ?_); refine wpList_load_at rfl 43 _ rfl STNode (w.heap.size + 1) 10 rfl c.narr hcn rfl ?_) | (go_at_call 59; (with_reducible refine (refKnown base s c.node W (h.keep0 hxW) hN).mono ?_); rintro e w1 ⟨rfl, hx1⟩; (rw [HK1.out, HK2.out])))
     have hBa := hBW.e0 hx1
     have hRa := hRW.e0 hx1
     have hEa := hEW.e0 hx1
     have hxa := hxW.tr hx1
     refine zH (S := fun q => q = (w.heap.size + 1 + 1) ∨ q = (w.heap.size + 1 + 1 + 1)) (by kernel_rfl) (fun Wd hd hd0 => ?_)
     refine zT 0 (.agg s.arr) rfl (by kernel_rfl) (by rfl) hd (fun _ _ _ h => h) ?_ ?_
     ·intro W' hS'
      exact run_load_blk rfl STStore (by go_simp) (hBa.ext hS' (by omega)) rfl
     refine zT 1 (.int .i64 31) rfl (by kernel_rfl) (by rfl) hd (fun _ _ _ h => h) ?_ ?_
     ·intro W' hS'
      go_simp
     simp only [Act.put, zA, zB, zC, zD, zE, zF]
     refine zO 2 (by kernel_rfl) ?_
     refine wpOp_call (f := 16) (args := #[.int .i64 31]) rfl (by rfl) (by go_simp) ((refNo 31 Wd).mono ?_)
     rintro e wn ⟨rfl, hxn⟩
     have hd1 := hd.trans hxn (fun _ _ e => e.elim)
     have hd01 := hd0.tr hxn
     refine ⟨_, rfl, hd1, ?_⟩
     simp only [Act.put, zA, zB, zC, zD, zE, zF]
     refine zO 3 (by kernel_rfl) ?_
     refine wpOp_store (p := (w.heap.size + 1 + 1)) (cs := s.arr) rfl (by rfl) rfl (by go_simp) (by go_simp) (hRa.e0 hd01) rfl STStore rfl rfl (fun w2 hR2 hx2 => ?_)
     have hd2 := hd1.trans hx2 (fun q hq e => .inl e)
     refine ⟨hd2, ?_⟩
     simp only [Act.put, zA, zB, zC, zD, zE, zF]
     refine zO 4 (by kernel_rfl) ?_
     refine wpOp_store (p := (w.heap.size + 1 + 1 + 1)) (cs := resArr 31 0) rfl (by rfl) rfl (by go_simp) (by go_simp) ((hEa.e0 hd01).ext hx2 (fun e => absurd (show (w.heap.size + 1 + 1 + 1) = (w.heap.size + 1 + 1) from e) (by omega))) rfl STResult rfl rfl (fun w3 hE3 hx3' => ?_)
     have hx3 := hd2.trans hx3' (fun q hq e => .inr e)
     have hR3 := hR2.ext hx3' (fun e => absurd (show (w.heap.size + 1 + 1) = (w.heap.size + 1 + 1 + 1) from e) (by omega))
     refine ⟨hx3, wpAnyH_done (by kernel_rfl) ?_ _⟩
     simp only [Act.put, zA, zB, zC, zD, zE, zF]
     go_wp2
     have hxx : Ext Nothing w w3 := hxa.trans hx3 (fun b hb e => by omega)
     exact bodyPost_ret (results_cell2 rfl STStore STResult rfl rfl hR3 rfl hE3 rfl) rfl ⟨s, ⟨31, 0, []⟩, .slice none 0 0, rfl, h.keep0 hxx, HF.out, ResI.nil _ _, hxx.mono (fun _ _ e => e.elim)⟩
    ·have hna : Fsm.nodeAt s.data c.node.id = some x := hf
     have hna' : Fsm.nodeAt s.data c.d.node.id = some x := hf
     have HX := Lib.hid hxi
     have HI := Lib.hid hi
     have HFI := Lib.hid hfirst
     have HP := Lib.hid hp
     have hk0 : (0 : Int) ≤ (i : Int) := by omega
     have hk1 : (i : Int) < s.nN := by have := hnl.out; have := (List.getElem?_eq_some_iff.1 hxi).1; omega
     clear hf hi hxi hfirst hp
     obtain ⟨x0, ⟨x1, x2⟩, x3, x4, x5, x6, x7⟩ := x
     cases hu : (!x3 || !(x6 == c.node.epoch)) with
     | true =>
      have hkn : knownF s.data c.node = (0, 32) := by unfold knownF; rw [hna]; simp only []; rw [hu]; rfl
      have HF := Lib.hid (show Fsm.beat s.data c.d = (s.data, ⟨32, 0, []⟩) by unfold Fsm.beat; rw [if_neg HGN.out, hna']; simp only []; rw [if_pos (show (!x3 || !(x6 == c.d.node.epoch)) = true from hu)]; rfl)
      clear hna hna' hu
      have HK1 := Lib.hid (show (knownF s.data c.node).1 = 0 by rw [hkn])
      have HK2 := Lib.hid (show (knownF s.data c.node).2 = 32 by rw [hkn])
      clear hkn
      go_enter Tryz.func31, Tryz.ntmps31
      go_upto_region 1 with fail
      generalize ((((w.alloc (.cells s.arr 30)).alloc (.cells c.arr 51)).alloc (.cells #[.int .i64 0, .int .i64 0, .slice none 0 0, .slice none 0 0, .slice none 0 0, .slice none 0 0, .slice none 0 0, .slice none 0 0, .slice none 0 0] 30)).alloc (.cells #[.int .i64 0, .int .i64 0, .slice none 0 0] 34)) = W at hxW hBW hCW hRW hEW ⊢
      have hzW : w.heap.size + 1 + 1 + 1 < W.heap.size := hEW.lt
      have hcn : ∀ j u, c.narr.toList[j]? = some u → W.cell? ⟨w.heap.size + 1, 10 + j, none⟩ = some u := fun j u hu => by rw [hCW.cell]; exact c.ncell j u hu
      have c18 : W.cell? ⟨w.heap.size + 1, 18, none⟩ = some (.slice c.RA c.rn c.rc) := hCW.cell 18
      have c17 : W.cell? ⟨w.heap.size + 1, 17, none⟩ = some (.int .i64 c.node.seq) := hCW.cell 17
      go_upto_region 5 with (first | go_skip | go_guarded | ((with_reducible refine isW ?_); refine wpList_load_blk rfl 30 _ rfl STStore w.heap.size rfl s.arr (show Blk _ _ 30 _ from hBW) rfl ?_) | ((with_reducible refine isW ?_); refine wpList_load_at rfl 43 _ rfl STNode (w.heap.size + 1) 10 rfl c.narr hcn rfl ?_) | (go_at_call 59; (with_reducible refine (refKnown base s c.node W (h.keep0 hxW) hN).mono ?_); rintro e w1 ⟨rfl, hx1⟩; (rw [HK1.out, HK2.out])))
      have hBa := hBW.e0 hx1
      have hRa := hRW.e0 hx1
      have hEa := hEW.e0 hx1
      have hxa := hxW.tr hx1
      refine zH (S := fun q => q = (w.heap.size + 1 + 1) ∨ q = (w.heap.size + 1 + 1 + 1)) (by kernel_rfl) (fun Wd hd hd0 => ?_)
      refine zT 0 (.agg s.arr) rfl (by kernel_rfl) (by rfl) hd (fun _ _ _ h => h) ?_ ?_
      ·intro W' hS'
       exact run_load_blk rfl STStore (by go_simp) (hBa.ext hS' (by omega)) rfl
      refine zT 1 (.int .i64 32) rfl (by kernel_rfl) (by rfl) hd (fun _ _ _ h => h) ?_ ?_
      ·intro W' hS'
       go_simp
      simp only [Act.put, zA, zB, zC, zD, zE, zF]
      refine zO 2 (by kernel_rfl) ?_
      refine wpOp_call (f := 16) (args := #[.int .i64 32]) rfl (by rfl) (by go_simp) ((refNo 32 Wd).mono ?_)
      rintro e wn ⟨rfl, hxn⟩
      have hd1 := hd.trans hxn (fun _ _ e => e.elim)
      have hd01 := hd0.tr hxn
      refine ⟨_, rfl, hd1, ?_⟩
      simp only [Act.put, zA, zB, zC, zD, zE, zF]
      refine zO 3 (by kernel_rfl) ?_
      refine wpOp_store (p := (w.heap.size + 1 + 1)) (cs := s.arr) rfl (by rfl) rfl (by go_simp) (by go_simp) (hRa.e0 hd01) rfl STStore rfl rfl (fun w2 hR2 hx2 => ?_)
      have hd2 := hd1.trans hx2 (fun q hq e => .inl e)
      refine ⟨hd2, ?_⟩
      simp only [Act.put, zA, zB, zC, zD, zE, zF]
      refine zO 4 (by kernel_rfl) ?_
      refine wpOp_store (p := (w.heap.size + 1 + 1 + 1)) (cs := resArr 32 0) rfl (by rfl) rfl (by go_simp) (by go_simp) ((hEa.e0 hd01).ext hx2 (fun e => absurd (show (w.heap.size + 1 + 1 + 1) = (w.heap.size + 1 + 1) from e) (by omega))) rfl STResult rfl rfl (fun w3 hE3 hx3' => ?_)
      have hx3 := hd2.trans hx3' (fun q hq e => .inr e)
      have hR3 := hR2.ext hx3' (fun e => absurd (show (w.heap.size + 1 + 1) = (w.heap.size + 1 + 1 + 1) from e) (by omega))
      refine ⟨hx3, wpAnyH_done (by kernel_rfl) ?_ _⟩
      simp only [Act.put, zA, zB, zC, zD, zE, zF]
      go_wp2
      have hxx : Ext Nothing w w3 := hxa.trans hx3 (fun b hb e => by omega)
      exact bodyPost_ret (results_cell2 rfl STStore STResult rfl rfl hR3 rfl hE3 rfl) rfl ⟨s, ⟨32, 0, []⟩, .slice none 0 0, rfl, h.keep0 hxx, HF.out, ResI.nil _ _, hxx.mono (fun _ _ e => e.elim)⟩
     | false =>
      have hkn : knownF s.data c.node = ((i : Int), 0) := by unfold knownF; rw [hna]; simp only []; rw [hu]; exact congrArg (fun z => (z, (0 : Int))) HI.out
      have HUN := Lib.hid (show ¬ (!x3 || !(x6 == c.d.node.epoch)) = true by rw [show (!x3 || !(x6 == c.d.node.epoch)) = false from hu]; exact Bool.false_ne_true)
      have HNA := Lib.hid hna'
      clear hna hna' hu
      have HK1 := Lib.hid (show (knownF s.data c.node).1 = (i : Int) by rw [hkn])
      have HK2 := Lib.hid (show (knownF s.data c.node).2 = 0 by rw [hkn])
      clear hkn
      go_enter Tryz.func31, Tryz.ntmps31
      go_upto_region 1 with fail
      generalize ((((w.alloc (.cells s.arr 30)).alloc (.cells c.arr 51)).alloc (.cells #[.int .i64 0, .int .i64 0, .slice none 0 0, .slice none 0 0, .slice none 0 0, .slice none 0 0, .slice none 0 0, .slice none 0 0, .slice none 0 0] 30)).alloc (.cells #[.int .i64 0, .int .i64 0, .slice none 0 0] 34)) = W at hxW hBW hCW hRW hEW ⊢
      have hzW : w.heap.size + 1 + 1 + 1 < W.heap.size := hEW.lt
      have hcn : ∀ j u, c.narr.toList[j]? = some u → W.cell? ⟨w.heap.size + 1, 10 + j, none⟩ = some u := fun j u hu => by rw [hCW.cell]; exact c.ncell j u hu
      have c18 : W.cell? ⟨w.heap.size + 1, 18, none⟩ = some (.slice c.RA c.rn c.rc) := hCW.cell 18
      have c17 : W.cell? ⟨w.heap.size + 1, 17, none⟩ = some (.int .i64 c.node.seq) := hCW.cell 17
      obtain ⟨g, cur, hAe, hob, hgb, _, hce, _⟩ := (h.keep0 hxW).putN HX.out
      have hgge : RowB base w g := RowB.of_own h.n (by decide) hob
      have hglt : g < w.heap.size := own_lt h.n hob
      have HA := Lib.hid (show s.AN = some ⟨g, 0, none⟩ from hAe)
      clear hAe
      go_upto_region 6 with (first | go_skip | go_guarded | ((with_reducible refine isW ?_); refine wpList_load_blk rfl 30 _ rfl STStore w.heap.size rfl s.arr (show Blk _ _ 30 _ from hBW) rfl ?_) | ((with_reducible refine isW ?_); refine wpList_load_at rfl 43 _ rfl STNode (w.heap.size + 1) 10 rfl c.narr hcn rfl ?_) | (go_at_call 59; (with_reducible refine (refKnown base s c.node W (h.keep0 hxW) hN).mono ?_); rintro e w1 ⟨rfl, hx1⟩; (rw [HK1.out, HK2.out]); have c4 : w1.cell? ⟨w.heap.size, 4, none⟩ = some (.slice (some ⟨g, 0, none⟩) s.nN s.cN) := (by rw [← HA.out]; exact (hBW.e0 hx1).cell 4); have k7 : w1.cell? ⟨g, i * 8 + 7, none⟩ = some (.int .i64 x7) := hx1.cell (hce 7 _ rfl) (fun e => e); have c17 : w1.cell? ⟨w.heap.size + 1, 17, none⟩ = some (.int .i64 c.node.seq) := (hCW.e0 hx1).cell 17))
      go_quiet (fail)
      have hdq := (Ext.refl Nothing w1).drewN nq
      generalize w1.drewN nq = wq at hdq ⊢
      have hx1q := hx1.tr hdq
      have hBa := hBW.e0 hx1q
      have hCa := hCW.e0 hx1q
      have hRa := hRW.e0 hx1q
      have hEa := hEW.e0 hx1q
      have hxa := hxW.tr hx1q
      by_cases hs7 : c.node.seq ≤ x7
      ·have hs7' : decide (c.node.seq ≤ x7) = true := by simpa using hs7
       have HF := Lib.hid (show Fsm.beat s.data c.d = (s.data, ⟨33, 0, []⟩) by
        unfold Fsm.beat; rw [if_neg HGN.out, HNA.out]; simp only []
        rw [if_neg HUN.out, if_pos (show c.d.node.seq ≤ x7 from hs7)]; rfl)
       go_upto_region 7 with (first | go_skip)
       refine zH (S := fun q => q = (w.heap.size + 1 + 1) ∨ q = (w.heap.size + 1 + 1 + 1)) (by kernel_rfl) (fun Wd hd hd0 => ?_)
       refine zT 0 (.agg s.arr) rfl (by kernel_rfl) (by rfl) hd (fun _ _ _ h => h) ?_ ?_
       ·intro W' hS'
        exact run_load_blk rfl STStore (by go_simp) (hBa.ext hS' (by omega)) rfl
       simp only [Act.put, zA, zB, zC, zD, zE, zF]
       refine zO 1 (by kernel_rfl) ?_
       refine wpOp_call (f := 16) (args := #[.int .i64 33]) rfl (by rfl) (by go_simp) ((refNo 33 Wd).mono ?_)
       rintro e wn ⟨rfl, hxn⟩
       have hd1 := hd.trans hxn (fun _ _ e => e.elim)
       have hd01 := hd0.tr hxn
       refine ⟨_, rfl, hd1, ?_⟩
       simp only [Act.put, zA, zB, zC, zD, zE, zF]
       refine zO 2 (by kernel_rfl) ?_
       refine wpOp_store (p := (w.heap.size + 1 + 1)) (cs := s.arr) rfl (by rfl) rfl (by go_simp) (by go_simp) (hRa.e0 hd01) rfl STStore rfl rfl (fun w2 hR2 hx2 => ?_)
       have hd2 := hd1.trans hx2 (fun q hq e => .inl e)
       refine ⟨hd2, ?_⟩
       simp only [Act.put, zA, zB, zC, zD, zE, zF]
       refine zO 3 (by kernel_rfl) ?_
       refine wpOp_store (p := (w.heap.size + 1 + 1 + 1)) (cs := resArr 33 0) rfl (by rfl) rfl (by go_simp) (by go_simp) ((hEa.e0 hd01).ext hx2 (fun e => absurd (show (w.heap.size + 1 + 1 + 1) = (w.heap.size + 1 + 1) from e) (by omega))) rfl STResult rfl rfl (fun w3 hE3 hx3' => ?_)
       have hx3 := hd2.trans hx3' (fun q hq e => .inr e)
       have hR3 := hR2.ext hx3' (fun e => absurd (show (w.heap.size + 1 + 1) = (w.heap.size + 1 + 1 + 1) from e) (by omega))
       refine ⟨hx3, wpAnyH_done (by kernel_rfl) ?_ _⟩
       simp only [Act.put, zA, zB, zC, zD, zE, zF]
       go_wp2
       have hxx : Ext Nothing w w3 := hxa.trans hx3 (fun b hb e => by omega)
       exact bodyPost_ret (results_cell2 rfl STStore STResult rfl rfl hR3 rfl hE3 rfl) rfl ⟨s, ⟨33, 0, []⟩, .slice none 0 0, rfl, h.keep0 hxx, HF.out, ResI.nil _ _, hxx.mono (fun _ _ e => e.elim)⟩
      ·have hs7' : decide (c.node.seq ≤ x7) = false := by simpa using hs7
       have HS7 := Lib.hid hs7
       have hOq := h.keep0 hxa
       obtain ⟨g', cur', hAe', _, hgb', _, hce', hput'⟩ := hOq.putN HX.out
       have hgg : g = g' := by have h7 : s.AN = some ⟨g', 0, none⟩ := hAe'; rw [HA.out] at h7; injection h7 with h7; injection h7
       subst hgg
       have hO8 : OwnS base (wq.setCell ⟨g, i * 8 + 7, none⟩ (.int .i64 c.node.seq)) ({ s with nodes := (s.nodes.set i ⟨x0, ⟨x1, x2⟩, x3, x4, x5, x6, c.node.seq⟩) } : StoreV) := hput' 7 (.int .i64 c.node.seq) ⟨x0, ⟨x1, x2⟩, x3, x4, x5, x6, c.node.seq⟩ (by decide) rfl
       have hs8 : Ext (fun b => b = g) wq (wq.setCell ⟨g, i * 8 + 7, none⟩ (.int .i64 c.node.seq)) := Ext.set1 _ _ _ _
       have c4q : wq.cell? ⟨w.heap.size, 4, none⟩ = some (.slice (some ⟨g, 0, none⟩) s.nN s.cN) := hdq.c0 c4
       have k7q : wq.cell? ⟨g, i * 8 + 7, none⟩ = some (.int .i64 x7) := hce' 7 _ rfl
       have f7q : wq.frozen? ⟨g, i * 8 + 7, none⟩ = false := hgb'.frozen _
       have c17q : wq.cell? ⟨w.heap.size + 1, 17, none⟩ = some (.int .i64 c.node.seq) := hCa.cell 17
       go_upto_region 9 with (first | go_skip)
       have hB8 := hBa.ext hs8 (fun e => absurd (show w.heap.size = g from e) (by omega))
       have hC8 := hCa.ext hs8 (fun e => absurd (show w.heap.size + 1 = g from e) (by omega))
       have hR8 := hRa.ext hs8 (fun e => absurd (show w.heap.size + 1 + 1 = g from e) (by omega))
       have hE8 := hEa.ext hs8 (fun e => absurd (show w.heap.size + 1 + 1 + 1 = g from e) (by omega))
       have hx8 : Ext (RowB base w) w (wq.setCell ⟨g, i * 8 + 7, none⟩ (.int .i64 c.node.seq)) := (hxa.mono (S' := RowB base w) (fun _ _ e => e.elim)).trans hs8 (fun b hb e => by rw [show b = g from e]; exact hgge)
       clear hAe' hput' hce' c4q k7q f7q c17q hs8 c4 k7 c17 hce hcn
       generalize (wq.setCell ⟨g, i * 8 + 7, none⟩ (.int .i64 c.node.seq)) = w8 at hO8 hB8 hC8 hR8 hE8 hx8 ⊢
       have HF := Lib.hid (show Fsm.beat s.data c.d = (let z := c.reports.foldl (Fsm.report c.node) (({ s with nodes := (s.nodes.set i ⟨x0, ⟨x1, x2⟩, x3, x4, x5, x6, c.node.seq⟩) } : StoreV).data, false); let s2 := Fsm.looked z.1; let s3 := if z.2 then Fsm.came s2 else s2; (s3, ⟨0, c.node.epoch, s3.allocs.filter (fun a => a.node == c.node.id && !overB a)⟩)) by
        unfold Fsm.beat; rw [if_neg HGN.out, HNA.out]; simp only []
        rw [if_neg HUN.out, if_neg (show ¬ c.d.node.seq ≤ x7 from HS7.out)]
        rw [show Fsm.turn1 (fun n => n.id == c.d.node.id) (fun n => { n with seq := c.d.node.seq }) s.data.nodes = _ from Fsm.turn1_set (f := fun n : NodD => { n with seq := c.d.node.seq }) HX.out HP.out HFI.out]; rfl)
       have hB8V : Blk w8 w.heap.size 30 ({ s with nodes := (s.nodes.set i ⟨x0, ⟨x1, x2⟩, x3, x4, x5, x6, c.node.seq⟩) } : StoreV).arr := hB8
       have hJ0 : ({ s with nodes := (s.nodes.set i ⟨x0, ⟨x1, x2⟩, x3, x4, x5, x6, c.node.seq⟩) } : StoreV).jobs.length ≤ 1048576 := hJ
       have hA0 : ({ s with nodes := (s.nodes.set i ⟨x0, ⟨x1, x2⟩, x3, x4, x5, x6, c.node.seq⟩) } : StoreV).allocs.length ≤ 1048576 := hA
       have hD0 : ({ s with nodes := (s.nodes.set i ⟨x0, ⟨x1, x2⟩, x3, x4, x5, x6, c.node.seq⟩) } : StoreV).deploys.length ≤ 1048576 := hDl
       have hS0 : ({ s with nodes := (s.nodes.set i ⟨x0, ⟨x1, x2⟩, x3, x4, x5, x6, c.node.seq⟩) } : StoreV).stable.length ≤ 33554432 := hS
       have hE0 : ({ s with nodes := (s.nodes.set i ⟨x0, ⟨x1, x2⟩, x3, x4, x5, x6, c.node.seq⟩) } : StoreV).evals.length ≤ 16777216 := hE
       clear hB8 hJ hA hDl hS hE hN
       generalize ({ s with nodes := (s.nodes.set i ⟨x0, ⟨x1, x2⟩, x3, x4, x5, x6, c.node.seq⟩) } : StoreV) = s0 at hO8 hB8V HF hJ0 hA0 hD0 hS0 hE0
       have hal := Lib.hid hO8.al
       have hdl := Lib.hid hO8.dl
       have hjl := Lib.hid hO8.jl
       have hnA : s0.nA ≤ 1048576 := by have := hO8.al; omega
       have hnD : s0.nD ≤ 1048576 := by have := hO8.dl; omega
       have hnJ : s0.nJ ≤ 1048576 := by have := hO8.jl; omega
       have hrn := hc.rl
       have hbw : base ≤ w8.heap.size := by have := hx8.size; omega
       go_wp2
       go_loopw [8, 9] (fun rb ki wr => ∃ t : Nat, t ≤ c.rn ∧ ki = .int .i64 t ∧ ∃ rm aL A n ca l dL, rb = .bool rm ∧ aL.length = s0.nA ∧ dL.length = s0.nD ∧ OwnS base wr ({ s0 with allocs := aL, AE := A, nE := n, cE := ca, evals := l, deploys := dL } : StoreV) ∧ (c.reports.take t).foldl (Fsm.report c.node) (s0.data, false) = (({ s0 with allocs := aL, AE := A, nE := n, cE := ca, evals := l, deploys := dL } : StoreV).data, rm) ∧ l.length ≤ s0.evals.length + t ∧ Blk wr w.heap.size 30 ({ s0 with allocs := aL, AE := A, nE := n, cE := ca, evals := l, deploys := dL } : StoreV).arr ∧ Blk wr (w.heap.size + 1) 51 c.arr ∧ Blk wr (w.heap.size + 1 + 1) 30 #[.int .i64 0, .int .i64 0, .slice none 0 0, .slice none 0 0, .slice none 0 0, .slice none 0 0, .slice none 0 0, .slice none 0 0, .slice none 0 0] ∧ Blk wr (w.heap.size + 1 + 1 + 1) 34 #[.int .i64 0, .int .i64 0, .slice none 0 0] ∧ Ext (RowB base w) w wr) (fun rb ki _ => c.rn - (intOf ki).toNat)
       case atStart => exact ⟨0, Nat.zero_le _, rfl, false, s0.allocs, s0.AE, s0.nE, s0.cE, s0.evals, s0.deploys, rfl, hal.out.symm, hdl.out.symm, hO8, rfl, Nat.le_refl _, hB8V, hC8, hR8, hE8, hx8⟩
       case round =>
        obtain ⟨t, ht, rfl, rm, aL, A, n, ca, l, dL, rfl, hla, hld, hO, hD, hL, hB, hC, hR, hEr, hx⟩ := hrel
        clear hB8V hC8 hR8 hE8 hO8 hx8
        have hzE : w.heap.size + 1 + 1 + 1 < wr.heap.size := hEr.lt
        have k18 : wr.cell? ⟨w.heap.size + 1, 18, none⟩ = some (.slice c.RA c.rn c.rc) := hC.cell 18
        by_cases hlt : t < c.rn
        ·have hci := hc.keepR hx
         obtain ⟨hjn, b, off, hRe, hrce⟩ := hci.r.get (Ext.refl Nothing wr) hlt
         have hst := foldl_take (Fsm.report c.node) (s0.data, false) c.reports t hjn
         rw [hD] at hst
         generalize c.reports[t] = r at hrce hst
         obtain ⟨r0, r1⟩ := r
         rw [hRe] at k18
         have hk0 : (0 : Int) ≤ (t : Int) := by omega
         have hk1 : (t : Int) < c.rn := by omega
         have HT := Lib.hid hlt
         have HRE := Lib.hid hRe
         have HS := Lib.hid hst
         have HL := Lib.hid hL
         have HLA := Lib.hid hla
         have HLD := Lib.hid hld
         clear hRe hst hL hla hld hD hci
         have hxQ : Ext Nothing wr (wr.alloc (.cells #[.int .i64 r0, .int .i64 r1] 103)) := Ext.auto
         have hQ : Blk (wr.alloc (.cells #[.int .i64 r0, .int .i64 r1] 103)) wr.heap.size 103 #[.int .i64 r0, .int .i64 r1] := Blk.new _ _ _
         have hBq := hB.e0 hxQ
         have hOq := hO.keep0 hxQ
         have hslq : Sl (wr.alloc (.cells #[.int .i64 r0, .int .i64 r1] 103)) 11 s0.AA s0.nA (aL.map AllocD.cells) := hOq.slA
         have hnA2 : s0.nA ≤ 67108864 := by omega
         have q0 : (wr.alloc (.cells #[.int .i64 r0, .int .i64 r1] 103)).cell? ⟨wr.heap.size, 0, none⟩ = some (.int .i64 r0) := hQ.cell 0
         rcases idx_cases (fun x : AllocD => x.id == r0) aL with ⟨hi, hf, _⟩ | ⟨k, y, hi, hy, hp, hf, hfirst⟩
         ·have HI := Lib.hid hi
          have hs1 := Lib.hid (HS.out.trans (Fsm.rep_none (z := (({ s0 with allocs := aL, AE := A, nE := n, cE := ca, evals := l, deploys := dL } : StoreV).data, rm)) (r := (r0, r1)) hf))
          clear hi hf
          go_wp2_with (first | go_skip | go_guarded | ((with_reducible refine isW ?_); refine wpList_load_at rfl 103 _ rfl STReport b (off + t * 2) rfl #[.int .i64 r0, .int .i64 r1] hrce rfl ?_) | ((with_reducible refine isW ?_); refine wpList_load_blk rfl 30 _ rfl STStore w.heap.size rfl ({ s0 with allocs := aL, AE := A, nE := n, cE := ca, evals := l, deploys := dL } : StoreV).arr (show Blk _ _ 30 _ from hBq) rfl ?_) | (go_at_call 60; (with_reducible refine (refAtAlloc s0.AA s0.nA s0.cA aL r0 (wr.alloc (.cells #[.int .i64 r0, .int .i64 r1] 103)) hslq hnA2 _ _ _ _ _ _ _ _).mono ?_); rintro e w1 ⟨rfl, hx1⟩; (rw [HI.out])))
          go_roundw
          case rel =>
           have hxx : Ext Nothing wr w1 := hxQ.tr hx1
           exact ⟨t + 1, HT.out, by go_num, rm, aL, A, n, ca, l, dL, rfl, HLA.out, HLD.out, hO.keep0 hxx, hs1.out, by have := HL.out; omega, hB.e0 hxx, hC.e0 hxx, hR.e0 hxx, hEr.e0 hxx, hx.trans hxx (fun _ _ e => e.elim)⟩
          case measure => have := HT.out; simp [intOf]; omega
         ·obtain ⟨y0, y1, y2, y3, y4, y5, y6, ⟨y7, y8⟩, y9, y10⟩ := y
          have HI := Lib.hid hi
          have HY := Lib.hid hy
          have HP := Lib.hid hp
          have HFI := Lib.hid hfirst
          have HFD := Lib.hid (show ({ s0 with allocs := aL, AE := A, nE := n, cE := ca, evals := l, deploys := dL } : StoreV).data.allocs.find? (fun a => a.id == r0) = some ⟨y0, y1, y2, y3, y4, y5, y6, ⟨y7, y8⟩, y9, y10⟩ from hf)
          clear hi hy hp hfirst hf
          go_upto_region 15 with (first | go_skip | go_guarded | ((with_reducible refine isW ?_); refine wpList_load_at rfl 103 _ rfl STReport b (off + t * 2) rfl #[.int .i64 r0, .int .i64 r1] hrce rfl ?_) | ((with_reducible refine isW ?_); refine wpList_load_blk rfl 30 _ rfl STStore w.heap.size rfl ({ s0 with allocs := aL, AE := A, nE := n, cE := ca, evals := l, deploys := dL } : StoreV).arr (show Blk _ _ 30 _ from hBq) rfl ?_) | (go_at_call 60; (with_reducible refine (refAtAlloc s0.AA s0.nA s0.cA aL r0 (wr.alloc (.cells #[.int .i64 r0, .int .i64 r1] 103)) hslq hnA2 _ _ _ _ _ _ _ _).mono ?_); rintro e w1 ⟨rfl, hx1⟩; (rw [HI.out])))
          have hxq1 : Ext Nothing wr w1 := hxQ.tr hx1
          have hQ1 := hQ.e0 hx1
          have hO1 := hO.keep0 hxq1
          have hB1 := hB.e0 hxq1
          have hC1 := hC.e0 hxq1
          have hR1 := hR.e0 hxq1
          have hE1 := hEr.e0 hxq1
          have hx1w : Ext (RowB base w) w w1 := hx.trans hxq1 (fun _ _ e => e.elim)
          clear hxQ hQ hBq hOq hslq q0 hxq1 hx1 hB hC hR hEr hO hx k18 hrce
          obtain ⟨g, cur, hAe0, hob, hgb, hm1, hce, _⟩ := hO1.putA HY.out
          have hAe : s0.AA = some ⟨g, 0, none⟩ := hAe0
          have hm1 : (k : Int) < s0.nA := hm1
          have hm0 : (0 : Int) ≤ (k : Int) := by omega
          have HA := Lib.hid hAe
          have hgge : base ≤ g := own_ge hO1.a hob
          have c5 : w1.cell? ⟨w.heap.size, 5, none⟩ = some (.slice (some ⟨g, 0, none⟩) s0.nA s0.cA) := by rw [← hAe]; exact hB1.cell 5
          clear hAe hAe0
          have hzQ : wr.heap.size < w1.heap.size := hQ1.lt
          have hgP : g < w1.heap.size := hgb.lt
          have hqz := Lib.hid hzQ
          have hceA : ∀ j u, (#[.int .i64 y0, .int .i64 y1, .int .i64 y2, .int .i64 y3, .int .i64 y4, .int .i64 y5, .int .i64 y6, .int .i64 y7, .int .i64 y8, .bool y9, .int .i64 y10] : Array Value).toList[j]? = some u → w1.cell? ⟨g, k * 11 + j, none⟩ = some u := fun j u hu => hce j u hu
          have hxP : Ext Nothing w1 (w1.alloc (.cells #[.int .i64 y0, .int .i64 y1, .int .i64 y2, .int .i64 y3, .int .i64 y4, .int .i64 y5, .int .i64 y6, .int .i64 y7, .int .i64 y8, .bool y9, .int .i64 y10] 58)) := Ext.auto
          have hP : Blk (w1.alloc (.cells #[.int .i64 y0, .int .i64 y1, .int .i64 y2, .int .i64 y3, .int .i64 y4, .int .i64 y5, .int .i64 y6, .int .i64 y7, .int .i64 y8, .bool y9, .int .i64 y10] 58)) w1.heap.size 58 #[.int .i64 y0, .int .i64 y1, .int .i64 y2, .int .i64 y3, .int .i64 y4, .int .i64 y5, .int .i64 y6, .int .i64 y7, .int .i64 y8, .bool y9, .int .i64 y10] := Blk.new _ _ _
          have hQ2 := hQ1.e0 hxP
          have hO2 := hO1.keep0 hxP
          have hB2 := hB1.e0 hxP
          have hC2 := hC1.e0 hxP
          have hR2 := hR1.e0 hxP
          have hE2 := hE1.e0 hxP
          have hx2w : Ext (RowB base w) w (w1.alloc (.cells #[.int .i64 y0, .int .i64 y1, .int .i64 y2, .int .i64 y3, .int .i64 y4, .int .i64 y5, .int .i64 y6, .int .i64 y7, .int .i64 y8, .bool y9, .int .i64 y10] 58)) := hx1w.trans hxP (fun _ _ e => e.elim)
          go_upto_region 17 with (first | go_skip | go_guarded | ((with_reducible refine isW ?_); refine wpList_load_at rfl 58 _ rfl STAlloc g (k * 11) rfl #[.int .i64 y0, .int .i64 y1, .int .i64 y2, .int .i64 y3, .int .i64 y4, .int .i64 y5, .int .i64 y6, .int .i64 y7, .int .i64 y8, .bool y9, .int .i64 y10] hceA rfl ?_))
          clear hceA c5 hxP hO1 hQ1 hB1 hC1 hR1 hE1 hx1w hgb hob hce hqz
          generalize hqq : wr.heap.size = Q at hQ2 hzQ ⊢
          generalize hpp : w1.heap.size = P at hP hzQ hgP ⊢
          generalize (w1.alloc (.cells #[.int .i64 y0, .int .i64 y1, .int .i64 y2, .int .i64 y3, .int .i64 y4, .int .i64 y5, .int .i64 y6, .int .i64 y7, .int .i64 y8, .bool y9, .int .i64 y10] 58)) = w2 at hP hQ2 hO2 hB2 hC2 hR2 hE2 hx2w ⊢
          clear hpp
          have hzQw : w.heap.size + 1 + 1 + 1 < Q := by omega
          clear hqq
          have q0 : w2.cell? ⟨Q, 0, none⟩ = some (.int .i64 r0) := hQ2.cell 0
          have q1 : w2.cell? ⟨Q, 1, none⟩ = some (.int .i64 r1) := hQ2.cell 1
          have p1 : w2.cell? ⟨P, 1, none⟩ = some (.int .i64 y1) := hP.cell 1
          have p2 : w2.cell? ⟨P, 2, none⟩ = some (.int .i64 y2) := hP.cell 2
          have p5 : w2.cell? ⟨P, 5, none⟩ = some (.int .i64 y5) := hP.cell 5
          have p6 : w2.cell? ⟨P, 6, none⟩ = some (.int .i64 y6) := hP.cell 6
          have p9 : w2.cell? ⟨P, 9, none⟩ = some (.bool y9) := hP.cell 9
          have p10 : w2.cell? ⟨P, 10, none⟩ = some (.int .i64 y10) := hP.cell 10
          have cc10 : w2.cell? ⟨w.heap.size + 1, 10, none⟩ = some (.int .i64 c.node.id) := hC2.cell 10
          have cc16 : w2.cell? ⟨w.heap.size + 1, 16, none⟩ = some (.int .i64 c.node.epoch) := hC2.cell 16
          go_cut [13] from 91 to 98 (fun e wx => e = .bool (r1 == 5 && !y9) ∧ w2 = wx)
          case first =>
           cases e5 : (r1 == 5) with
           | true =>
            go_wp2_with (first | go_skip | go_guarded)
            go_meet
            exact ⟨by rw [e5]; rfl, rfl⟩
           | false =>
            go_wp2_with (first | go_skip | go_guarded)
            go_meet
            exact ⟨by rw [e5]; rfl, rfl⟩
          case rest =>
           obtain ⟨rfl, rfl⟩ := hcut
           have HTK := Lib.hid (Fsm.takes_not c.node ⟨y0, y1, y2, y3, y4, y5, y6, ⟨y7, y8⟩, y9, y10⟩ r1)
           go_upto_region 18 with fail
           go_cut [137] from 99 to 136 (fun e wx => e = .bool ((y5 != c.node.id) || (y6 != c.node.epoch) || decide (3 ≤ y10) || decide (r1 ≤ y10) || decide (r1 < 2) || decide (5 < r1) || (r1 == 5 && !y9)) ∧ w2 = wx)
           case first =>
            cases v1 : (y5 != c.node.id) with
            | true =>
             go_wp2_with (first | go_skip | go_guarded)
             go_meet
             exact ⟨by rw [v1]; rfl, rfl⟩
            | false =>
             cases v2 : (y6 != c.node.epoch) with
             | true =>
              go_wp2_with (first | go_skip | go_guarded)
              go_meet
              exact ⟨by rw [v1, v2]; rfl, rfl⟩
             | false =>
              cases v3 : (decide (3 ≤ y10)) with
              | true =>
               go_wp2_with (first | go_skip | go_guarded)
               go_meet
               exact ⟨by rw [v1, v2, v3]; rfl, rfl⟩
              | false =>
               cases v4 : (decide (r1 ≤ y10)) with
               | true =>
                go_wp2_with (first | go_skip | go_guarded)
                go_meet
                exact ⟨by rw [v1, v2, v3, v4]; rfl, rfl⟩
               | false =>
                cases v5 : (decide (r1 < 2)) with
                | true =>
                 go_wp2_with (first | go_skip | go_guarded)
                 go_meet
                 exact ⟨by rw [v1, v2, v3, v4, v5]; rfl, rfl⟩
                | false =>
                 cases v6 : (decide (5 < r1)) with
                 | true =>
                  go_wp2_with (first | go_skip | go_guarded)
                  go_meet
                  exact ⟨by rw [v1, v2, v3, v4, v5, v6]; rfl, rfl⟩
                 | false =>
                  go_wp2_with (first | go_skip | go_guarded)
                  go_meet
                  exact ⟨by rw [v1, v2, v3, v4, v5, v6]; rfl, rfl⟩
           case rest =>
            obtain ⟨rfl, rfl⟩ := hcut
            rw [← (show _ = _ from HTK.out)]
            cases htk : Fsm.takes c.node ⟨y0, y1, y2, y3, y4, y5, y6, ⟨y7, y8⟩, y9, y10⟩ r1 with
            | false =>
             have hs1 := Lib.hid (HS.out.trans (Fsm.rep_not (z := (({ s0 with allocs := aL, AE := A, nE := n, cE := ca, evals := l, deploys := dL } : StoreV).data, rm)) (r := (r0, r1)) HFD.out htk))
             simp only [Bool.not_false]
             go_wp2_with (first | go_skip | go_guarded)
             go_roundw
             case rel => exact ⟨t + 1, HT.out, by go_num, rm, aL, A, n, ca, l, dL, rfl, HLA.out, HLD.out, hO2, hs1.out, by have := HL.out; omega, hB2, hC2, hR2, hE2, hx2w⟩
             case measure => have := HT.out; simp [intOf]; omega
            | true =>
             simp only [Bool.not_true]
             obtain ⟨g2, cur2, hAe2, _, hgb2, _, hce2, hput2⟩ := hO2.putA HY.out
             have hgg : g = g2 := by have h7 : s0.AA = some ⟨g2, 0, none⟩ := hAe2; rw [HA.out] at h7; injection h7 with h7; injection h7
             subst hgg
             clear hAe2
             have hO3 : OwnS base (w2.setCell ⟨g, k * 11 + 10, none⟩ (.int .i64 r1)) ({ s0 with allocs := (aL.set k ⟨y0, y1, y2, y3, y4, y5, y6, ⟨y7, y8⟩, y9, r1⟩), AE := A, nE := n, cE := ca, evals := l, deploys := dL } : StoreV) := hput2 10 (.int .i64 r1) ⟨y0, y1, y2, y3, y4, y5, y6, ⟨y7, y8⟩, y9, r1⟩ (by decide) rfl
             have hs3 : Ext (fun b => b = g) w2 (w2.setCell ⟨g, k * 11 + 10, none⟩ (.int .i64 r1)) := Ext.set1 _ _ _ _
             have c5 : w2.cell? ⟨w.heap.size, 5, none⟩ = some (.slice (some ⟨g, 0, none⟩) s0.nA s0.cA) := by rw [← HA.out]; exact hB2.cell 5
             have f10 : w2.frozen? ⟨g, k * 11 + 10, none⟩ = false := hgb2.frozen _
             have k10 : w2.cell? ⟨g, k * 11 + 10, none⟩ = some (.int .i64 y10) := hce2 10 _ rfl
             have nB : g ≠ w.heap.size := Blk.ne hgb2 hB2 (by decide)
             have nC : g ≠ (w.heap.size + 1) := Blk.ne hgb2 hC2 (by decide)
             have nR : g ≠ (w.heap.size + 1 + 1) := Blk.ne hgb2 hR2 (by decide)
             have nE : g ≠ (w.heap.size + 1 + 1 + 1) := Blk.ne hgb2 hE2 (by decide)
             have nQ : g ≠ Q := Blk.ne hgb2 hQ2 (by decide)
             have hB3 := hB2.ext hs3 (fun e => nB e.symm)
             have hC3 := hC2.ext hs3 (fun e => nC e.symm)
             have hR3 := hR2.ext hs3 (fun e => nR e.symm)
             have hE3 := hE2.ext hs3 (fun e => nE e.symm)
             have hQ3 := hQ2.ext hs3 (fun e => nQ e.symm)
             have hP3 := hP.ext hs3 (fun e => absurd (show P = g from e) (by omega))
             have hx3w : Ext (RowB base w) w (w2.setCell ⟨g, k * 11 + 10, none⟩ (.int .i64 r1)) := hx2w.setRow (RowB.of_blk hgb2 (by decide) hgge) _
             have HM := Lib.hid (show Fsm.turn1 (fun a => a.id == r0) (fun a => { a with state := r1 }) aL = aL.set k ⟨y0, y1, y2, y3, y4, y5, y6, ⟨y7, y8⟩, y9, r1⟩ from Fsm.turn1_set (f := fun a : AllocD => { a with state := r1 }) HY.out HP.out HFI.out)
             go_upto_region 20 with (first | go_skip | go_guarded)
             clear hput2 hce2 hgb2 f10 k10 c5 hs3 q0 q1 p1 p2 p5 p6 p9 p10 cc10 cc16
             generalize (w2.setCell ⟨g, k * 11 + 10, none⟩ (.int .i64 r1)) = w3 at hO3 hB3 hC3 hR3 hE3 hQ3 hP3 hx3w ⊢
             clear hO2 hB2 hC2 hR2 hE2 hQ2 hP hx2w nB nC nR nE nQ
             have hB3 : Blk w3 w.heap.size 30 ({ s0 with allocs := (aL.set k ⟨y0, y1, y2, y3, y4, y5, y6, ⟨y7, y8⟩, y9, r1⟩), AE := A, nE := n, cE := ca, evals := l, deploys := dL } : StoreV).arr := hB3
             have q1 : w3.cell? ⟨Q, 1, none⟩ = some (.int .i64 r1) := hQ3.cell 1
             have p1 : w3.cell? ⟨P, 1, none⟩ = some (.int .i64 y1) := hP3.cell 1
             have hb3 : base ≤ w3.heap.size := by have := hx3w.size; omega
             have HE3 := Lib.hid (show ({ s0 with allocs := (aL.set k ⟨y0, y1, y2, y3, y4, y5, y6, ⟨y7, y8⟩, y9, r1⟩), AE := A, nE := n, cE := ca, evals := l, deploys := dL } : StoreV).evals.length < 67108862 by have := HL.out; show l.length < _; omega)
             have HJ3 := Lib.hid (show ({ s0 with allocs := (aL.set k ⟨y0, y1, y2, y3, y4, y5, y6, ⟨y7, y8⟩, y9, r1⟩), AE := A, nE := n, cE := ca, evals := l, deploys := dL } : StoreV).jobs.length ≤ 67108864 by show s0.jobs.length ≤ _; omega)
             cases e3 : decide (3 ≤ r1) with
             | true =>
              go_wp2_with (first | go_skip | go_guarded | ((with_reducible refine isW ?_); refine wpList_load_blk rfl 30 _ rfl STStore w.heap.size rfl ({ s0 with allocs := (aL.set k ⟨y0, y1, y2, y3, y4, y5, y6, ⟨y7, y8⟩, y9, r1⟩), AE := A, nE := n, cE := ca, evals := l, deploys := dL } : StoreV).arr (show Blk _ _ 30 _ from hB3) rfl ?_) | (go_at_call 54; (with_reducible refine (refEval base ({ s0 with allocs := (aL.set k ⟨y0, y1, y2, y3, y4, y5, y6, ⟨y7, y8⟩, y9, r1⟩), AE := A, nE := n, cE := ca, evals := l, deploys := dL } : StoreV) y1 w3 hO3 hb3 HJ3.out HE3.out).mono ?_); rintro e w4 ⟨s2, rfl, hO4, hD4, ⟨A2, n2, c2', l2, rfl⟩, hx4⟩; have hB4 := hB3.e0 hx4) | ((with_reducible refine isW ?_); refine wpList_store_blk rfl 30 _ _ rfl STStore w.heap.size rfl ({ s0 with allocs := (aL.set k ⟨y0, y1, y2, y3, y4, y5, y6, ⟨y7, y8⟩, y9, r1⟩), AE := A2, nE := n2, cE := c2', evals := l2, deploys := dL } : StoreV).arr rfl (show Blk _ _ 30 _ from hB4) rfl rfl rfl ?_; intro w5 hBw5 hxw5))
              have hx35 : Ext (fun q => q = w.heap.size) w3 w5 := (hx4.mono (fun _ _ e => e.elim)).trans hxw5 (fun b hb e => e)
              have hlen : l2.length ≤ s0.evals.length + (t + 1) := by
               have e1 : l2.length = (Fsm.eval ({ s0 with allocs := (aL.set k ⟨y0, y1, y2, y3, y4, y5, y6, ⟨y7, y8⟩, y9, r1⟩), AE := A, nE := n, cE := ca, evals := l, deploys := dL } : StoreV).data y1).evals.length := congrArg (fun z : StoreD => z.evals.length) hD4
               have e2 := Fsm.eval_len ({ s0 with allocs := (aL.set k ⟨y0, y1, y2, y3, y4, y5, y6, ⟨y7, y8⟩, y9, r1⟩), AE := A, nE := n, cE := ca, evals := l, deploys := dL } : StoreV).data y1
               have e4 := HL.out
               have e5 : ({ s0 with allocs := (aL.set k ⟨y0, y1, y2, y3, y4, y5, y6, ⟨y7, y8⟩, y9, r1⟩), AE := A, nE := n, cE := ca, evals := l, deploys := dL } : StoreV).data.evals.length = l.length := rfl
               omega
              have hs1 := Lib.hid (HS.out.trans (Fsm.rep_over (z := (({ s0 with allocs := aL, AE := A, nE := n, cE := ca, evals := l, deploys := dL } : StoreV).data, rm)) (r := (r0, r1)) HFD.out htk HM.out (show 3 ≤ r1 by simpa using e3)))
              go_roundw
              case rel => exact ⟨t + 1, HT.out, by go_num, true, aL.set k ⟨y0, y1, y2, y3, y4, y5, y6, ⟨y7, y8⟩, y9, r1⟩, A2, n2, c2', l2, dL, rfl, by rw [List.length_set]; exact HLA.out, HLD.out, hO4.keep hxw5 (Apart.one hB4 (by decide)), hs1.out.trans (congrArg (fun z => (z, true)) hD4.symm), hlen, hBw5, hC3.ext hx35 (fun e => absurd (show (w.heap.size + 1) = w.heap.size from e) (by omega)), hR3.ext hx35 (fun e => absurd (show (w.heap.size + 1 + 1) = w.heap.size from e) (by omega)), hE3.ext hx35 (fun e => absurd (show (w.heap.size + 1 + 1 + 1) = w.heap.size from e) (by omega)), hx3w.trans hx35 (fun b hb e => absurd (show b = w.heap.size from e) (by omega))⟩
              case measure => have := HT.out; simp [intOf]; omega
             | false =>
              have h3n : ¬ 3 ≤ r1 := by simpa using e3
              have hslj : Sl w3 7 s0.AJ s0.nJ (s0.jobs.map JobV.cells) := hO3.slJ
              have hnJ2 : s0.nJ ≤ 67108864 := by omega
              have H3N := Lib.hid h3n
              clear h3n
              rcases idx_cases (fun x : JobV => x.1.id == y1) s0.jobs with ⟨hij, hfj, _⟩ | ⟨kj, xj, hij, hxj0, hpj, hfj, _⟩
              ·have HIJ := Lib.hid hij
               have hs1 := Lib.hid (HS.out.trans (Fsm.rep_nojob (z := (({ s0 with allocs := aL, AE := A, nE := n, cE := ca, evals := l, deploys := dL } : StoreV).data, rm)) (r := (r0, r1)) HFD.out htk HM.out H3N.out (jobAt_none hfj)))
               clear hij hfj
               go_wp2_with (first | go_skip | go_guarded | ((with_reducible refine isW ?_); refine wpList_load_blk rfl 30 _ rfl STStore w.heap.size rfl ({ s0 with allocs := (aL.set k ⟨y0, y1, y2, y3, y4, y5, y6, ⟨y7, y8⟩, y9, r1⟩), AE := A, nE := n, cE := ca, evals := l, deploys := dL } : StoreV).arr (show Blk _ _ 30 _ from hB3) rfl ?_) | (go_at_call 51; (with_reducible refine (refAtJob s0.AJ s0.nJ s0.cJ s0.jobs y1 w3 hslj hnJ2 _ _ _ _ _ _ _ _).mono ?_); rintro e wj ⟨rfl, hxj⟩; (rw [HIJ.out])))
               go_roundw
               case rel => exact ⟨t + 1, HT.out, by go_num, rm, aL.set k ⟨y0, y1, y2, y3, y4, y5, y6, ⟨y7, y8⟩, y9, r1⟩, A, n, ca, l, dL, rfl, by rw [List.length_set]; exact HLA.out, HLD.out, hO3.keep0 hxj, hs1.out, by have := HL.out; omega, hB3.e0 hxj, hC3.e0 hxj, hR3.e0 hxj, hE3.e0 hxj, hx3w.trans hxj (fun _ _ e => e.elim)⟩
               case measure => have := HT.out; simp [intOf]; omega
              ·have HIJ := Lib.hid hij
               have HFJ := Lib.hid (show Fsm.jobAt ({ ({ s0 with allocs := aL, AE := A, nE := n, cE := ca, evals := l, deploys := dL } : StoreV).data with allocs := aL.set k ⟨y0, y1, y2, y3, y4, y5, y6, ⟨y7, y8⟩, y9, r1⟩ } : StoreD) y1 = some xj.1 from jobAt_data hfj)
               have hkj1 : (kj : Int) < s0.nJ := by have := (List.getElem?_eq_some_iff.1 hxj0).1; have := hjl.out; omega
               have hkj0 : (0 : Int) ≤ (kj : Int) := by omega
               obtain ⟨gj, curj, hAj0, _, _, _, hcej, _⟩ := hO3.putJ (show ({ s0 with allocs := (aL.set k ⟨y0, y1, y2, y3, y4, y5, y6, ⟨y7, y8⟩, y9, r1⟩), AE := A, nE := n, cE := ca, evals := l, deploys := dL } : StoreV).jobs[kj]? = some xj from hxj0)
               have hAj : s0.AJ = some ⟨gj, 0, none⟩ := hAj0
               have HAJ := Lib.hid hAj
               clear hij hfj hpj hAj hAj0 hxj0
               obtain ⟨⟨j0, j1, j2, j3, jg, j5, j6⟩, jv⟩ := xj
               cases t1 : (j1 != 1) with
               | true =>
                have hs1 := Lib.hid (HS.out.trans (Fsm.rep_type (z := (({ s0 with allocs := aL, AE := A, nE := n, cE := ca, evals := l, deploys := dL } : StoreV).data, rm)) (r := (r0, r1)) HFD.out htk HM.out H3N.out HFJ.out (show (j1 == 1) = false from by simpa using t1)))
                go_wp2_with (first | go_skip | go_guarded | ((with_reducible refine isW ?_); refine wpList_load_blk rfl 30 _ rfl STStore w.heap.size rfl ({ s0 with allocs := (aL.set k ⟨y0, y1, y2, y3, y4, y5, y6, ⟨y7, y8⟩, y9, r1⟩), AE := A, nE := n, cE := ca, evals := l, deploys := dL } : StoreV).arr (show Blk _ _ 30 _ from hB3) rfl ?_) | (go_at_call 51; (with_reducible refine (refAtJob s0.AJ s0.nJ s0.cJ s0.jobs y1 w3 hslj hnJ2 _ _ _ _ _ _ _ _).mono ?_); rintro e wj ⟨rfl, hxj⟩; (rw [HIJ.out]); have c2 : wj.cell? ⟨w.heap.size, 2, none⟩ = some (.slice (some ⟨gj, 0, none⟩) s0.nJ s0.cJ) := (by rw [← HAJ.out]; exact (hB3.e0 hxj).cell 2); have kj1 : wj.cell? ⟨gj, kj * 7 + 1, none⟩ = some (.int .i64 j1) := hxj.cell (hcej 1 _ rfl) (fun e => e)))
                go_roundw
                case rel => exact ⟨t + 1, HT.out, by go_num, rm, aL.set k ⟨y0, y1, y2, y3, y4, y5, y6, ⟨y7, y8⟩, y9, r1⟩, A, n, ca, l, dL, rfl, by rw [List.length_set]; exact HLA.out, HLD.out, hO3.keep0 hxj, hs1.out, by have := HL.out; omega, hB3.e0 hxj, hC3.e0 hxj, hR3.e0 hxj, hE3.e0 hxj, hx3w.trans hxj (fun _ _ e => e.elim)⟩
                case measure => have := HT.out; simp [intOf]; omega
               | false =>
                go_upto_region 25 with (first | go_skip | go_guarded | ((with_reducible refine isW ?_); refine wpList_load_blk rfl 30 _ rfl STStore w.heap.size rfl ({ s0 with allocs := (aL.set k ⟨y0, y1, y2, y3, y4, y5, y6, ⟨y7, y8⟩, y9, r1⟩), AE := A, nE := n, cE := ca, evals := l, deploys := dL } : StoreV).arr (show Blk _ _ 30 _ from hB3) rfl ?_) | (go_at_call 51; (with_reducible refine (refAtJob s0.AJ s0.nJ s0.cJ s0.jobs y1 w3 hslj hnJ2 _ _ _ _ _ _ _ _).mono ?_); rintro e wj ⟨rfl, hxj⟩; (rw [HIJ.out]); have c2 : wj.cell? ⟨w.heap.size, 2, none⟩ = some (.slice (some ⟨gj, 0, none⟩) s0.nJ s0.cJ) := (by rw [← HAJ.out]; exact (hB3.e0 hxj).cell 2); have kj1 : wj.cell? ⟨gj, kj * 7 + 1, none⟩ = some (.int .i64 j1) := hxj.cell (hcej 1 _ rfl) (fun e => e)))
                have hO3j := hO3.keep0 hxj
                have hB3 := hB3.e0 hxj
                have hP4 := hP3.e0 hxj
                have hbj : base ≤ wj.heap.size := by have := hxj.size; omega
                have p1j : wj.cell? ⟨P, 1, none⟩ = some (.int .i64 y1) := hP4.cell 1
                go_upto_region 26 with (first | go_skip | go_guarded | ((with_reducible refine isW ?_); refine wpList_load_blk rfl 30 _ rfl STStore w.heap.size rfl ({ s0 with allocs := (aL.set k ⟨y0, y1, y2, y3, y4, y5, y6, ⟨y7, y8⟩, y9, r1⟩), AE := A, nE := n, cE := ca, evals := l, deploys := dL } : StoreV).arr (show Blk _ _ 30 _ from hB3) rfl ?_) | (go_at_call 54; (with_reducible refine (refEval base ({ s0 with allocs := (aL.set k ⟨y0, y1, y2, y3, y4, y5, y6, ⟨y7, y8⟩, y9, r1⟩), AE := A, nE := n, cE := ca, evals := l, deploys := dL } : StoreV) y1 wj hO3j hbj HJ3.out HE3.out).mono ?_); rintro e w4 ⟨s2, rfl, hO4, hD4, ⟨A2, n2, c2', l2, rfl⟩, hx4⟩; have hB4 := hB3.e0 hx4) | ((with_reducible refine isW ?_); refine wpList_store_blk rfl 30 _ _ rfl STStore w.heap.size rfl ({ s0 with allocs := (aL.set k ⟨y0, y1, y2, y3, y4, y5, y6, ⟨y7, y8⟩, y9, r1⟩), AE := A2, nE := n2, cE := c2', evals := l2, deploys := dL } : StoreV).arr rfl (show Blk _ _ 30 _ from hB4) rfl rfl rfl ?_; intro w5 hBw5 hxw5))
                have hxj5 : Ext (fun q => q = w.heap.size) wj w5 := (hx4.mono (fun _ _ e => e.elim)).trans hxw5 (fun b hb e => e)
                have hx35 : Ext (fun q => q = w.heap.size) w3 w5 := (hxj.mono (fun _ _ e => e.elim)).trans hxj5 (fun b hb e => e)
                have hlen : l2.length ≤ s0.evals.length + (t + 1) := by
                 have e1 : l2.length = (Fsm.eval ({ s0 with allocs := (aL.set k ⟨y0, y1, y2, y3, y4, y5, y6, ⟨y7, y8⟩, y9, r1⟩), AE := A, nE := n, cE := ca, evals := l, deploys := dL } : StoreV).data y1).evals.length := congrArg (fun z : StoreD => z.evals.length) hD4
                 have e2 := Fsm.eval_len ({ s0 with allocs := (aL.set k ⟨y0, y1, y2, y3, y4, y5, y6, ⟨y7, y8⟩, y9, r1⟩), AE := A, nE := n, cE := ca, evals := l, deploys := dL } : StoreV).data y1
                 have e4 := HL.out
                 have e5 : ({ s0 with allocs := (aL.set k ⟨y0, y1, y2, y3, y4, y5, y6, ⟨y7, y8⟩, y9, r1⟩), AE := A, nE := n, cE := ca, evals := l, deploys := dL } : StoreV).data.evals.length = l.length := rfl
                 omega
                have hO5 := hO4.keep hxw5 (Apart.one hB4 (by decide))
                have hC5 := hC3.ext hx35 (fun e => absurd (show (w.heap.size + 1) = w.heap.size from e) (by omega))
                have hR5 := hR3.ext hx35 (fun e => absurd (show (w.heap.size + 1 + 1) = w.heap.size from e) (by omega))
                have hE5 := hE3.ext hx35 (fun e => absurd (show (w.heap.size + 1 + 1 + 1) = w.heap.size from e) (by omega))
                have hP5 := hP3.ext hx35 (fun e => absurd (show P = w.heap.size from e) (by omega))
                have hx5w : Ext (RowB base w) w w5 := hx3w.trans hx35 (fun b hb e => absurd (show b = w.heap.size from e) (by omega))
                have HD4 := Lib.hid hD4
                have HLN := Lib.hid hlen
                clear hD4 hlen hxj5 hx35 hxw5 hx4 hO4 hB4 hO3j hB3 hxj hP4 p1j hbj hcej p1 q1 hslj
                have hsld : Sl w5 4 s0.AD s0.nD (dL.map DepD.cells) := hO5.slD
                have hnD2 : s0.nD ≤ 67108864 := by omega
                have p1 : w5.cell? ⟨P, 1, none⟩ = some (.int .i64 y1) := hP5.cell 1
                rcases idx_cases (fun x : DepD => x.job == y1) dL with ⟨him, hfm, _⟩ | ⟨m, d, him, hdm, hpm, hfm, hfirstm⟩
                ·have HIM := Lib.hid him
                 have hs1 := Lib.hid (HS.out.trans ((Fsm.rep_dep (z := (({ s0 with allocs := aL, AE := A, nE := n, cE := ca, evals := l, deploys := dL } : StoreV).data, rm)) (r := (r0, r1)) HFD.out htk HM.out (show ¬ 3 ≤ r1 by have := H3N.out; omega) HFJ.out (show (j1 == 1) = true from by simpa using t1) (t := ({ s0 with allocs := (aL.set k ⟨y0, y1, y2, y3, y4, y5, y6, ⟨y7, y8⟩, y9, r1⟩), AE := A2, nE := n2, cE := c2', evals := l2, deploys := dL } : StoreV).data) HD4.out (q := dL) (Fsm.turn1_none hfm)).trans (show _ = (({ s0 with allocs := (aL.set k ⟨y0, y1, y2, y3, y4, y5, y6, ⟨y7, y8⟩, y9, r1⟩), AE := A2, nE := n2, cE := c2', evals := l2, deploys := dL } : StoreV).data, rm) from rfl)))
                 clear him hfm
                 go_upto_region 27 with (first | go_skip | go_guarded | ((with_reducible refine isW ?_); refine wpList_load_blk rfl 30 _ rfl STStore w.heap.size rfl ({ s0 with allocs := (aL.set k ⟨y0, y1, y2, y3, y4, y5, y6, ⟨y7, y8⟩, y9, r1⟩), AE := A2, nE := n2, cE := c2', evals := l2, deploys := dL } : StoreV).arr (show Blk _ _ 30 _ from hBw5) rfl ?_) | (go_at_call 53; (with_reducible refine (refAtDeploy s0.AD s0.nD s0.cD dL y1 w5 hsld hnD2 _ _ _ _ _ _ _ _).mono ?_); rintro e wd ⟨rfl, hxd⟩; (rw [HIM.out])))
                 go_quiet (fail)
                 have hdq := (Ext.refl Nothing wd).drewN nq
                 generalize wd.drewN nq = wq at hdq ⊢
                 have hxq : Ext Nothing w5 wq := hxd.tr hdq
                 go_wp2_with (first | go_skip | go_guarded)
                 go_roundw
                 case rel => exact ⟨t + 1, HT.out, by go_num, rm, aL.set k ⟨y0, y1, y2, y3, y4, y5, y6, ⟨y7, y8⟩, y9, r1⟩, A2, n2, c2', l2, dL, rfl, by rw [List.length_set]; exact HLA.out, HLD.out, hO5.keep0 hxq, hs1.out, HLN.out, hBw5.e0 hxq, hC5.e0 hxq, hR5.e0 hxq, hE5.e0 hxq, hx5w.trans hxq (fun _ _ e => e.elim)⟩
                 case measure => have := HT.out; simp [intOf]; omega
                ·obtain ⟨d0, d1, d2, d3⟩ := d
                 have HIM := Lib.hid him
                 have HDM := Lib.hid hdm
                 have HPM := Lib.hid hpm
                 have HFM := Lib.hid hfirstm
                 have hmd1 : (m : Int) < s0.nD := by have := (List.getElem?_eq_some_iff.1 hdm).1; have := HLD.out; omega
                 have hmd0 : (0 : Int) ≤ (m : Int) := by omega
                 obtain ⟨gd, curd, hAd0, hobd, _, _, hced, _⟩ := hO5.putD (show ({ s0 with allocs := (aL.set k ⟨y0, y1, y2, y3, y4, y5, y6, ⟨y7, y8⟩, y9, r1⟩), AE := A2, nE := n2, cE := c2', evals := l2, deploys := dL } : StoreV).deploys[m]? = some ⟨d0, d1, d2, d3⟩ from hdm)
                 have hAd : s0.AD = some ⟨gd, 0, none⟩ := hAd0
                 have HAD := Lib.hid hAd
                 have hgdb : base ≤ gd := own_ge hO5.d hobd
                 clear him hdm hpm hfm hfirstm hAd hAd0 hobd
                 cases t2 : (d2 == 1) with
                 | false =>
                  have hs1 := Lib.hid (HS.out.trans ((Fsm.rep_dep (z := (({ s0 with allocs := aL, AE := A, nE := n, cE := ca, evals := l, deploys := dL } : StoreV).data, rm)) (r := (r0, r1)) HFD.out htk HM.out (show ¬ 3 ≤ r1 by have := H3N.out; omega) HFJ.out (show (j1 == 1) = true from by simpa using t1) (t := ({ s0 with allocs := (aL.set k ⟨y0, y1, y2, y3, y4, y5, y6, ⟨y7, y8⟩, y9, r1⟩), AE := A2, nE := n2, cE := c2', evals := l2, deploys := dL } : StoreV).data) HD4.out (q := dL) ((Fsm.turn1_set (f := fun d : DepD => if d.state == 1 && d.ver == y2 then { d with index := s0.index } else d) HDM.out HPM.out HFM.out).trans (by show dL.set m (if (d2 == 1 && d1 == y2) = true then _ else _) = dL; rw [if_neg (by rw [t2]; simp)]; exact set_self HDM.out))).trans (show _ = (({ s0 with allocs := (aL.set k ⟨y0, y1, y2, y3, y4, y5, y6, ⟨y7, y8⟩, y9, r1⟩), AE := A2, nE := n2, cE := c2', evals := l2, deploys := dL } : StoreV).data, rm) from rfl)))
                  go_upto_region 27 with (first | go_skip | go_guarded | ((with_reducible refine isW ?_); refine wpList_load_blk rfl 30 _ rfl STStore w.heap.size rfl ({ s0 with allocs := (aL.set k ⟨y0, y1, y2, y3, y4, y5, y6, ⟨y7, y8⟩, y9, r1⟩), AE := A2, nE := n2, cE := c2', evals := l2, deploys := dL } : StoreV).arr (show Blk _ _ 30 _ from hBw5) rfl ?_) | (go_at_call 53; (with_reducible refine (refAtDeploy s0.AD s0.nD s0.cD dL y1 w5 hsld hnD2 _ _ _ _ _ _ _ _).mono ?_); rintro e wd ⟨rfl, hxd⟩; (rw [HIM.out]); have c7 : wd.cell? ⟨w.heap.size, 7, none⟩ = some (.slice (some ⟨gd, 0, none⟩) s0.nD s0.cD) := (by rw [← HAD.out]; exact (hBw5.e0 hxd).cell 7); have kd1 : wd.cell? ⟨gd, m * 4 + 1, none⟩ = some (.int .i64 d1) := hxd.cell (hced 1 _ rfl) (fun e => e); have kd2 : wd.cell? ⟨gd, m * 4 + 2, none⟩ = some (.int .i64 d2) := hxd.cell (hced 2 _ rfl) (fun e => e); have p2d : wd.cell? ⟨P, 2, none⟩ = some (.int .i64 y2) := (hP5.e0 hxd).cell 2; have dm0 : decide ((0 : Int) ≤ (m : Int)) = true := (by simp)))
                  go_quiet (fail)
                  have hdq := (Ext.refl Nothing wd).drewN nq
                  generalize wd.drewN nq = wq at hdq ⊢
                  have hxq : Ext Nothing w5 wq := hxd.tr hdq
                  go_wp2_with (first | go_skip | go_guarded)
                  go_roundw
                  case rel => exact ⟨t + 1, HT.out, by go_num, rm, aL.set k ⟨y0, y1, y2, y3, y4, y5, y6, ⟨y7, y8⟩, y9, r1⟩, A2, n2, c2', l2, dL, rfl, by rw [List.length_set]; exact HLA.out, HLD.out, hO5.keep0 hxq, hs1.out, HLN.out, hBw5.e0 hxq, hC5.e0 hxq, hR5.e0 hxq, hE5.e0 hxq, hx5w.trans hxq (fun _ _ e => e.elim)⟩
                  case measure => have := HT.out; simp [intOf]; omega
                 | true =>
                  cases t3 : (d1 == y2) with
                  | false =>
                   have hs1 := Lib.hid (HS.out.trans ((Fsm.rep_dep (z := (({ s0 with allocs := aL, AE := A, nE := n, cE := ca, evals := l, deploys := dL } : StoreV).data, rm)) (r := (r0, r1)) HFD.out htk HM.out (show ¬ 3 ≤ r1 by have := H3N.out; omega) HFJ.out (show (j1 == 1) = true from by simpa using t1) (t := ({ s0 with allocs := (aL.set k ⟨y0, y1, y2, y3, y4, y5, y6, ⟨y7, y8⟩, y9, r1⟩), AE := A2, nE := n2, cE := c2', evals := l2, deploys := dL } : StoreV).data) HD4.out (q := dL) ((Fsm.turn1_set (f := fun d : DepD => if d.state == 1 && d.ver == y2 then { d with index := s0.index } else d) HDM.out HPM.out HFM.out).trans (by show dL.set m (if (d2 == 1 && d1 == y2) = true then _ else _) = dL; rw [if_neg (by rw [t3]; simp)]; exact set_self HDM.out))).trans (show _ = (({ s0 with allocs := (aL.set k ⟨y0, y1, y2, y3, y4, y5, y6, ⟨y7, y8⟩, y9, r1⟩), AE := A2, nE := n2, cE := c2', evals := l2, deploys := dL } : StoreV).data, rm) from rfl)))
                   go_upto_region 27 with (first | go_skip | go_guarded | ((with_reducible refine isW ?_); refine wpList_load_blk rfl 30 _ rfl STStore w.heap.size rfl ({ s0 with allocs := (aL.set k ⟨y0, y1, y2, y3, y4, y5, y6, ⟨y7, y8⟩, y9, r1⟩), AE := A2, nE := n2, cE := c2', evals := l2, deploys := dL } : StoreV).arr (show Blk _ _ 30 _ from hBw5) rfl ?_) | (go_at_call 53; (with_reducible refine (refAtDeploy s0.AD s0.nD s0.cD dL y1 w5 hsld hnD2 _ _ _ _ _ _ _ _).mono ?_); rintro e wd ⟨rfl, hxd⟩; (rw [HIM.out]); have c7 : wd.cell? ⟨w.heap.size, 7, none⟩ = some (.slice (some ⟨gd, 0, none⟩) s0.nD s0.cD) := (by rw [← HAD.out]; exact (hBw5.e0 hxd).cell 7); have kd1 : wd.cell? ⟨gd, m * 4 + 1, none⟩ = some (.int .i64 d1) := hxd.cell (hced 1 _ rfl) (fun e => e); have kd2 : wd.cell? ⟨gd, m * 4 + 2, none⟩ = some (.int .i64 d2) := hxd.cell (hced 2 _ rfl) (fun e => e); have p2d : wd.cell? ⟨P, 2, none⟩ = some (.int .i64 y2) := (hP5.e0 hxd).cell 2; have dm0 : decide ((0 : Int) ≤ (m : Int)) = true := (by simp)))
                   go_quiet (fail)
                   have hdq := (Ext.refl Nothing wd).drewN nq
                   generalize wd.drewN nq = wq at hdq ⊢
                   have hxq : Ext Nothing w5 wq := hxd.tr hdq
                   go_wp2_with (first | go_skip | go_guarded)
                   go_roundw
                   case rel => exact ⟨t + 1, HT.out, by go_num, rm, aL.set k ⟨y0, y1, y2, y3, y4, y5, y6, ⟨y7, y8⟩, y9, r1⟩, A2, n2, c2', l2, dL, rfl, by rw [List.length_set]; exact HLA.out, HLD.out, hO5.keep0 hxq, hs1.out, HLN.out, hBw5.e0 hxq, hC5.e0 hxq, hR5.e0 hxq, hE5.e0 hxq, hx5w.trans hxq (fun _ _ e => e.elim)⟩
                   case measure => have := HT.out; simp [intOf]; omega
                  | true =>
                   have hs1 := Lib.hid (HS.out.trans ((Fsm.rep_dep (z := (({ s0 with allocs := aL, AE := A, nE := n, cE := ca, evals := l, deploys := dL } : StoreV).data, rm)) (r := (r0, r1)) HFD.out htk HM.out (show ¬ 3 ≤ r1 by have := H3N.out; omega) HFJ.out (show (j1 == 1) = true from by simpa using t1) (t := ({ s0 with allocs := (aL.set k ⟨y0, y1, y2, y3, y4, y5, y6, ⟨y7, y8⟩, y9, r1⟩), AE := A2, nE := n2, cE := c2', evals := l2, deploys := dL } : StoreV).data) HD4.out (q := dL.set m ⟨d0, d1, d2, s0.index⟩) ((Fsm.turn1_set (f := fun d : DepD => if d.state == 1 && d.ver == y2 then { d with index := s0.index } else d) HDM.out HPM.out HFM.out).trans (by show dL.set m (if (d2 == 1 && d1 == y2) = true then _ else _) = _; rw [if_pos (by rw [t2, t3]; rfl)]))).trans (show _ = (({ s0 with allocs := (aL.set k ⟨y0, y1, y2, y3, y4, y5, y6, ⟨y7, y8⟩, y9, r1⟩), AE := A2, nE := n2, cE := c2', evals := l2, deploys := (dL.set m ⟨d0, d1, d2, s0.index⟩) } : StoreV).data, rm) from rfl)))
                   go_upto_region 27 with (first | go_skip | go_guarded | ((with_reducible refine isW ?_); refine wpList_load_blk rfl 30 _ rfl STStore w.heap.size rfl ({ s0 with allocs := (aL.set k ⟨y0, y1, y2, y3, y4, y5, y6, ⟨y7, y8⟩, y9, r1⟩), AE := A2, nE := n2, cE := c2', evals := l2, deploys := dL } : StoreV).arr (show Blk _ _ 30 _ from hBw5) rfl ?_) | (go_at_call 53; (with_reducible refine (refAtDeploy s0.AD s0.nD s0.cD dL y1 w5 hsld hnD2 _ _ _ _ _ _ _ _).mono ?_); rintro e wd ⟨rfl, hxd⟩; (rw [HIM.out]); have c7 : wd.cell? ⟨w.heap.size, 7, none⟩ = some (.slice (some ⟨gd, 0, none⟩) s0.nD s0.cD) := (by rw [← HAD.out]; exact (hBw5.e0 hxd).cell 7); have kd1 : wd.cell? ⟨gd, m * 4 + 1, none⟩ = some (.int .i64 d1) := hxd.cell (hced 1 _ rfl) (fun e => e); have kd2 : wd.cell? ⟨gd, m * 4 + 2, none⟩ = some (.int .i64 d2) := hxd.cell (hced 2 _ rfl) (fun e => e); have p2d : wd.cell? ⟨P, 2, none⟩ = some (.int .i64 y2) := (hP5.e0 hxd).cell 2; have dm0 : decide ((0 : Int) ≤ (m : Int)) = true := (by simp)))
                   go_quiet (fail)
                   have hdq := (Ext.refl Nothing wd).drewN nq
                   generalize wd.drewN nq = wq at hdq ⊢
                   have hxq : Ext Nothing w5 wq := hxd.tr hdq
                   have hOq := hO5.keep0 hxq
                   obtain ⟨gq, curq, hAq, _, hgbq, _, hceq, hputq⟩ := hOq.putD (show ({ s0 with allocs := (aL.set k ⟨y0, y1, y2, y3, y4, y5, y6, ⟨y7, y8⟩, y9, r1⟩), AE := A2, nE := n2, cE := c2', evals := l2, deploys := dL } : StoreV).deploys[m]? = some ⟨d0, d1, d2, d3⟩ from HDM.out)
                   have hgg : gd = gq := by have h7 : s0.AD = some ⟨gq, 0, none⟩ := hAq; rw [HAD.out] at h7; injection h7 with h7; injection h7
                   subst hgg
                   clear hAq
                   have hO6 : OwnS base (wq.setCell ⟨gd, m * 4 + 3, none⟩ (.int .i64 s0.index)) ({ s0 with allocs := (aL.set k ⟨y0, y1, y2, y3, y4, y5, y6, ⟨y7, y8⟩, y9, r1⟩), AE := A2, nE := n2, cE := c2', evals := l2, deploys := (dL.set m ⟨d0, d1, d2, s0.index⟩) } : StoreV) := hputq 3 (.int .i64 s0.index) ⟨d0, d1, d2, s0.index⟩ (by decide) rfl
                   have hs6 : Ext (fun b => b = gd) wq (wq.setCell ⟨gd, m * 4 + 3, none⟩ (.int .i64 s0.index)) := Ext.set1 _ _ _ _
                   have hBq := hBw5.e0 hxq
                   have hCq := hC5.e0 hxq
                   have hRq := hR5.e0 hxq
                   have hEq := hE5.e0 hxq
                   have c7q : wq.cell? ⟨w.heap.size, 7, none⟩ = some (.slice (some ⟨gd, 0, none⟩) s0.nD s0.cD) := (by rw [← HAD.out]; exact hBq.cell 7)
                   have c0q : wq.cell? ⟨w.heap.size, 0, none⟩ = some (.int .i64 s0.index) := hBq.cell 0
                   have f3q : wq.frozen? ⟨gd, m * 4 + 3, none⟩ = false := hgbq.frozen _
                   have k3q : wq.cell? ⟨gd, m * 4 + 3, none⟩ = some (.int .i64 d3) := hceq 3 _ rfl
                   have nB : gd ≠ w.heap.size := Blk.ne hgbq hBq (by decide)
                   have nC : gd ≠ (w.heap.size + 1) := Blk.ne hgbq hCq (by decide)
                   have nR : gd ≠ (w.heap.size + 1 + 1) := Blk.ne hgbq hRq (by decide)
                   have nE : gd ≠ (w.heap.size + 1 + 1 + 1) := Blk.ne hgbq hEq (by decide)
                   have hxw6 : Ext (RowB base w) w (wq.setCell ⟨gd, m * 4 + 3, none⟩ (.int .i64 s0.index)) := (hx5w.trans hxq (fun _ _ e => e.elim)).setRow (RowB.of_blk hgbq (by decide) hgdb) _
                   go_wp2_with (first | go_skip | go_guarded)
                   go_roundw
                   case rel => exact ⟨t + 1, HT.out, by go_num, rm, aL.set k ⟨y0, y1, y2, y3, y4, y5, y6, ⟨y7, y8⟩, y9, r1⟩, A2, n2, c2', l2, dL.set m ⟨d0, d1, d2, s0.index⟩, rfl, by rw [List.length_set]; exact HLA.out, by rw [List.length_set]; exact HLD.out, hO6, hs1.out, HLN.out, hBq.ext hs6 (fun e => nB e.symm), hCq.ext hs6 (fun e => nC e.symm), hRq.ext hs6 (fun e => nR e.symm), hEq.ext hs6 (fun e => nE e.symm), hxw6⟩
                   case measure => have := HT.out; simp [intOf]; omega
        ·have hnl : ¬ ((t : Int) < c.rn) := by omega
         have htn : t = c.rn := by omega
         have HFD2 := Lib.hid (show c.reports.foldl (Fsm.report c.node) (s0.data, false) = (({ s0 with allocs := aL, AE := A, nE := n, cE := ca, evals := l, deploys := dL } : StoreV).data, rm) by rw [← hD, List.take_of_length_le (by have := hrl.out; omega)])
         have HF4 := Lib.hid (show Fsm.beat s.data c.d = (let s2 := Fsm.looked ({ s0 with allocs := aL, AE := A, nE := n, cE := ca, evals := l, deploys := dL } : StoreV).data; let s3 := if rm then Fsm.came s2 else s2; (s3, ⟨0, c.node.epoch, s3.allocs.filter (fun a => a.node == c.node.id && !overB a)⟩)) by rw [HF.out, HFD2.out])
         clear hD HF HFD2
         have hbr : base ≤ wr.heap.size := by have := hx.size; omega
         have gJ : ({ s0 with allocs := aL, AE := A, nE := n, cE := ca, evals := l, deploys := dL } : StoreV).jobs.length ≤ 1048576 := hJ0
         have gA : ({ s0 with allocs := aL, AE := A, nE := n, cE := ca, evals := l, deploys := dL } : StoreV).allocs.length ≤ 1048576 := by show aL.length ≤ _; omega
         have gD : ({ s0 with allocs := aL, AE := A, nE := n, cE := ca, evals := l, deploys := dL } : StoreV).deploys.length ≤ 1048576 := by show dL.length ≤ _; omega
         have gS : ({ s0 with allocs := aL, AE := A, nE := n, cE := ca, evals := l, deploys := dL } : StoreV).stable.length ≤ 33554432 := hS0
         have hEv : l.length < 67108862 := by omega
         go_upto_region 30 with (first | go_skip | go_guarded | ((with_reducible refine isW ?_); refine wpList_load_blk rfl 30 _ rfl STStore w.heap.size rfl ({ s0 with allocs := aL, AE := A, nE := n, cE := ca, evals := l, deploys := dL } : StoreV).arr (show Blk _ _ 30 _ from hB) rfl ?_) | (go_at_call 61; (with_reducible refine (refLooked base ({ s0 with allocs := aL, AE := A, nE := n, cE := ca, evals := l, deploys := dL } : StoreV) wr hO hbr gJ gA gD gS).mono ?_); rintro e w1 ⟨s2, rfl, hO6, hD6, _, ⟨dL2, A3, n3, c3, l3, _, rfl⟩, hx1⟩; have hB1 := hB.ext hx1 (own_ne hO.d hB (by decide))) | ((with_reducible refine isW ?_); refine wpList_store_blk rfl 30 _ _ rfl STStore w.heap.size rfl ({ s0 with allocs := aL, AE := A, nE := n, cE := ca, evals := l, deploys := dL2, AS := A3, nS := n3, cS := c3, stable := l3 } : StoreV).arr rfl (show Blk _ _ 30 _ from hB1) rfl rfl rfl ?_; intro w2 hBw2 hxw2))
         have hw1 : Ext (RowB base w) w w1 := hx.row hx1 (fun b e => RowB.of_own hO.d (by decide) e)
         have hO7 := hO6.keep hxw2 (Apart.one hB1 (by decide))
         have hC2 := (hC.ext hx1 (own_ne hO.d hC (by decide))).ext hxw2 (fun e => absurd (show (w.heap.size + 1) = w.heap.size from e) (by omega))
         have hR2 := (hR.ext hx1 (own_ne hO.d hR (by decide))).ext hxw2 (fun e => absurd (show (w.heap.size + 1 + 1) = w.heap.size from e) (by omega))
         have hE2 := (hEr.ext hx1 (own_ne hO.d hEr (by decide))).ext hxw2 (fun e => absurd (show (w.heap.size + 1 + 1 + 1) = w.heap.size from e) (by omega))
         have hx2 : Ext (RowB base w) w w2 := hw1.trans hxw2 (fun b hb e => absurd (show b = w.heap.size from e) (by omega))
         have HEV := Lib.hid (show ({ s0 with allocs := aL, AE := A, nE := n, cE := ca, evals := l, deploys := dL2, AS := A3, nS := n3, cS := c3, stable := l3 } : StoreV).evals.length < 67108862 from hEv)
         have HAL := Lib.hid (show ({ s0 with allocs := aL, AE := A, nE := n, cE := ca, evals := l, deploys := dL2, AS := A3, nS := n3, cS := c3, stable := l3 } : StoreV).allocs.length ≤ 1048576 from gA)
         have HD6 := Lib.hid hD6
         have HO7 := hO7
         clear hO hO6 hO7 hx hx1 hxw2 hw1 hB1 hB hC hR hEr hD6 gJ gA gD gS hEv hL hla hld
         generalize ({ s0 with allocs := aL, AE := A, nE := n, cE := ca, evals := l, deploys := dL2, AS := A3, nS := n3, cS := c3, stable := l3 } : StoreV) = s6 at HEV HAL HD6 HO7 hBw2 ⊢
         go_upto_if 206 with fail
         go_cut [] from 207 to 208 (fun wx => ∃ A7 n7 c7 l7, OwnS base wx ({ s6 with AE := A7, nE := n7, cE := c7, evals := l7 } : StoreV) ∧ ({ s6 with AE := A7, nE := n7, cE := c7, evals := l7 } : StoreV).data = (if rm then Fsm.came s6.data else s6.data) ∧ Blk wx w.heap.size 30 ({ s6 with AE := A7, nE := n7, cE := c7, evals := l7 } : StoreV).arr ∧ Blk wx (w.heap.size + 1) 51 c.arr ∧ Blk wx (w.heap.size + 1 + 1) 30 #[.int .i64 0, .int .i64 0, .slice none 0 0, .slice none 0 0, .slice none 0 0, .slice none 0 0, .slice none 0 0, .slice none 0 0, .slice none 0 0] ∧ Blk wx (w.heap.size + 1 + 1 + 1) 34 #[.int .i64 0, .int .i64 0, .slice none 0 0] ∧ Ext (RowB base w) w wx)
         case first =>
          cases rm with
          | false =>
           go_wp2_with (first | go_skip | go_guarded)
           go_meet
           exact ⟨s6.AE, s6.nE, s6.cE, s6.evals, HO7, rfl, hBw2, hC2, hR2, hE2, hx2⟩
          | true =>
           go_wp2_with (first | go_skip | go_guarded | ((with_reducible refine isW ?_); refine wpList_load_blk rfl 30 _ rfl STStore w.heap.size rfl s6.arr (show Blk _ _ 30 _ from hBw2) rfl ?_) | (go_at_call 58; (with_reducible refine (refCame base s6 w2 HO7 HEV.out).mono ?_); rintro e w3 ⟨s7, rfl, hO8, hD8, ⟨A7, n7, c7, l7, rfl⟩, hx3⟩; have hB3 := hBw2.ext hx3 (own_ne HO7.e hBw2 (by decide))) | ((with_reducible refine isW ?_); refine wpList_store_blk rfl 30 _ _ rfl STStore w.heap.size rfl ({ s6 with AE := A7, nE := n7, cE := c7, evals := l7 } : StoreV).arr rfl (show Blk _ _ 30 _ from hB3) rfl rfl rfl ?_; intro w4 hBw4 hxw4))
           go_meet
           have hx4 : Ext (RowB base w) w w4 := (hx2.row hx3 (fun b e => RowB.of_own HO7.e (by decide) e)).trans hxw4 (fun b hb e => absurd (show b = w.heap.size from e) (by omega))
           exact ⟨A7, n7, c7, l7, hO8.keep hxw4 (Apart.one hB3 (by decide)), hD8, hBw4, (hC2.ext hx3 (own_ne HO7.e hC2 (by decide))).ext hxw4 (fun e => absurd (show (w.heap.size + 1) = w.heap.size from e) (by omega)), (hR2.ext hx3 (own_ne HO7.e hR2 (by decide))).ext hxw4 (fun e => absurd (show (w.heap.size + 1 + 1) = w.heap.size from e) (by omega)), (hE2.ext hx3 (own_ne HO7.e hE2 (by decide))).ext hxw4 (fun e => absurd (show (w.heap.size + 1 + 1 + 1) = w.heap.size from e) (by omega)), hx4⟩
         case rest =>
          obtain ⟨A7, n7, c7, l7, hO7, hD7, hB7, hC7, hR7, hE7, hx7⟩ := hcut
          clear HO7 hBw2 hC2 hR2 hE2 hx2 HEV
          have HF5 := Lib.hid (show Fsm.beat s.data c.d = (({ s6 with AE := A7, nE := n7, cE := c7, evals := l7 } : StoreV).data, ⟨0, c.node.epoch, s6.allocs.filter (fun a => a.node == c.node.id && !overB a)⟩) by rw [HF4.out, ← HD6.out]; show (_, (_ : ResultD)) = _; rw [← hD7]; rfl)
          clear HF4 HD6 hD7
          have cc16 : wc.cell? ⟨w.heap.size + 1, 16, none⟩ = some (.int .i64 c.node.epoch) := hC7.cell 16
          have h6A : s6.nA = s6.allocs.length := hO7.al
          have H6A := Lib.hid h6A
          have hn6 : s6.nA ≤ 1048576 := by have := HAL.out; omega
          clear h6A
          have hzc : w.heap.size + 1 + 1 + 1 < wc.heap.size := hE7.lt
          have hbc : base ≤ wc.heap.size := by have := hx7.size; omega
          have hx8 : Ext Nothing wc (wc.alloc (.cells #[.int .i64 0, .int .i64 c.node.epoch, .slice none 0 0] 34)) := Ext.auto
          have hO8 : Blk (wc.alloc (.cells #[.int .i64 0, .int .i64 c.node.epoch, .slice none 0 0] 34)) wc.heap.size 34 #[.int .i64 0, .int .i64 c.node.epoch, .slice none 0 0] := Blk.new _ _ _
          have hs7 := hO7.slA
          go_wp2
          generalize (wc.alloc (.cells #[.int .i64 0, .int .i64 c.node.epoch, .slice none 0 0] 34)) = w8 at hx8 hO8 ⊢
          go_loopw [17] (fun ki wr => ∃ t : Nat, t ≤ s6.nA ∧ ki = .int .i64 t ∧ ∃ (out : List AllocD) (AO : Option Addr) (co : Nat), out = (s6.allocs.take t).filter (fun a => a.node == c.node.id && !overB a) ∧ out.length ≤ t ∧ wr.ownsRow wc.heap.size 58 11 (.slice AO out.length co) out.length (out.flatMap AllocD.cells) ∧ Blk wr wc.heap.size 34 #[.int .i64 0, .int .i64 c.node.epoch, .slice AO out.length co] ∧ Ext Nothing wc wr) (fun ki _ => s6.nA - (intOf ki).toNat)
          case atStart => exact ⟨0, Nat.zero_le _, rfl, [], none, 0, rfl, Nat.le_refl _, World.ownsRow_nil _ _ _ _, hO8, hx8⟩
          case round =>
           obtain ⟨t, ht, rfl, out, AO, co, hout, hol, hown, hOr, hx⟩ := hrel
           clear hO8 hx8
           have hB := hB7.e0 hx
           have hC := hC7.e0 hx
           have hR := hR7.e0 hx
           have hEr := hE7.e0 hx
           have hzO : wc.heap.size < wr.heap.size := hOr.lt
           have b5 : wr.cell? ⟨w.heap.size, 5, none⟩ = some (.slice s6.AA s6.nA s6.cA) := hB.cell 5
           by_cases hlt : t < s6.nA
           ·obtain ⟨hjn, b, off, hAe, hce⟩ := hs7.get hx hlt
            have hnx : s6.allocs.take (t + 1) = s6.allocs.take t ++ [s6.allocs[t]] := by rw [List.take_add_one, List.getElem?_eq_getElem hjn]; rfl
            have hce : ∀ j u, (AllocD.cells s6.allocs[t])[j]? = some u → wr.cell? ⟨b, off + t * 11 + j, none⟩ = some u := hce
            generalize s6.allocs[t] = y at hce hnx
            obtain ⟨y0, y1, y2, y3, y4, y5, y6, ⟨y7, y8⟩, y9, y10⟩ := y
            have hAe2 : s6.AA = some ⟨b, off, none⟩ := hAe
            rw [hAe2] at b5
            have HA := Lib.hid hAe2
            have HT := Lib.hid hlt
            have HNX := Lib.hid hnx
            have HOUT := Lib.hid hout
            have HOL := Lib.hid hol
            clear hAe hAe2 hnx hout hol
            have hk0 : (0 : Int) ≤ (t : Int) := by omega
            have hk1 : (t : Int) < s6.nA := by omega
            have cc10 : wr.cell? ⟨w.heap.size + 1, 10, none⟩ = some (.int .i64 c.node.id) := hC.cell 10
            have k5 : wr.cell? ⟨b, off + t * 11 + 5, none⟩ = some (.int .i64 y5) := hce 5 _ rfl
            have k10 : wr.cell? ⟨b, off + t * 11 + 10, none⟩ = some (.int .i64 y10) := hce 10 _ rfl
            cases z1 : (y5 == c.node.id) with
            | false =>
             have HO2 := Lib.hid (show out = (s6.allocs.take (t + 1)).filter (fun a => a.node == c.node.id && !overB a) by rw [HNX.out, List.filter_append, ← HOUT.out, List.filter_cons_of_neg (by show ¬ (y5 == c.node.id && !overB _) = true; rw [z1]; simp), List.filter_nil, List.append_nil])
             go_upto_region 36 with (first | go_skip | go_guarded)
             go_quiet (fail)
             have hdq := (Ext.refl Nothing wr).drewN nq
             generalize wr.drewN nq = wq at hdq ⊢
             go_wp2_with (first | go_skip | go_guarded)
             go_roundw
             case rel => exact ⟨t + 1, HT.out, by go_num, out, AO, co, HO2.out, by have := HOL.out; omega, own_ext hown hdq (fun _ _ e => e), hOr.e0 hdq, hx.tr hdq⟩
             case measure => have := HT.out; simp [intOf]; omega
            | true =>
             cases z2 : decide (y10 < 3) with
             | false =>
              have HO2 := Lib.hid (show out = (s6.allocs.take (t + 1)).filter (fun a => a.node == c.node.id && !overB a) by rw [HNX.out, List.filter_append, ← HOUT.out, List.filter_cons_of_neg (by show ¬ (y5 == c.node.id && !overB _) = true; rw [z1]; simp [overB]; simpa using z2), List.filter_nil, List.append_nil])
              go_upto_region 36 with (first | go_skip | go_guarded)
              go_quiet (fail)
              have hdq := (Ext.refl Nothing wr).drewN nq
              generalize wr.drewN nq = wq at hdq ⊢
              go_wp2_with (first | go_skip | go_guarded)
              go_roundw
              case rel => exact ⟨t + 1, HT.out, by go_num, out, AO, co, HO2.out, by have := HOL.out; omega, own_ext hown hdq (fun _ _ e => e), hOr.e0 hdq, hx.tr hdq⟩
              case measure => have := HT.out; simp [intOf]; omega
             | true =>
              have HO2 := Lib.hid (show out ++ [(⟨y0, y1, y2, y3, y4, y5, y6, ⟨y7, y8⟩, y9, y10⟩ : AllocD)] = (s6.allocs.take (t + 1)).filter (fun a => a.node == c.node.id && !overB a) by rw [HNX.out, List.filter_append, ← HOUT.out, List.filter_cons_of_pos (by show (y5 == c.node.id && !overB _) = true; rw [z1]; simp [overB]; simpa using z2), List.filter_nil])
              go_upto_region 36 with (first | go_skip | go_guarded)
              go_quiet (fail)
              have hdq := (Ext.refl Nothing wr).drewN nq
              generalize wr.drewN nq = wq at hdq ⊢
              have hownq := own_ext hown hdq (fun _ _ e => e)
              have hOq := hOr.e0 hdq
              have hBq := hB.e0 hdq
              have hxq := hx.tr hdq
              have hceq : ∀ j u, (#[.int .i64 y0, .int .i64 y1, .int .i64 y2, .int .i64 y3, .int .i64 y4, .int .i64 y5, .int .i64 y6, .int .i64 y7, .int .i64 y8, .bool y9, .int .i64 y10] : Array Value).toList[j]? = some u → wq.cell? ⟨b, off + t * 11 + j, none⟩ = some u := fun j u hu => hdq.cell (hce j u hu) (fun e => e)
              have h7a : wc.ownsRow base 58 11 (.slice s6.AA s6.nA s6.cA) s6.allocs.length (s6.allocs.flatMap AllocD.cells) := hO7.a
              have hblt : b < wc.heap.size := own_lt h7a (by rw [HA.out]; rfl)
              clear h7a
              clear b5 k5 k10 cc10 hce
              go_upto_region 37 with (first | go_skip | go_guarded)
              have b5 : wq.cell? ⟨w.heap.size, 5, none⟩ = some (.slice (some ⟨b, off, none⟩) s6.nA s6.cA) := by rw [← HA.out]; exact hBq.cell 5
              have o2 : wq.cell? ⟨wc.heap.size, 2, none⟩ = some (.slice AO out.length co) := hOq.cell 2
              have hbn : out.length < 67108864 := by have := HOL.out; omega
              have HCE := Lib.hid hceq
              clear hceq
              refine zH (S := fun q => wc.heap.size ≤ q) (by kernel_rfl) (fun Wd hd hd0 => ?_)
              refine zT 0 (.pointer (some ⟨wc.heap.size, 2, none⟩)) rfl (by kernel_rfl) (by rfl) hd (fun _ _ _ h => h) ?_ ?_
              ·intro W' hS'
               go_simp
              refine zT 2 (.pointer (some ⟨w.heap.size, 5, none⟩)) rfl (by kernel_rfl) (by rfl) hd (fun _ _ _ h => h) ?_ ?_
              ·intro W' hS'
               go_simp
              refine zT 3 (.slice (some ⟨b, off, none⟩) s6.nA s6.cA) rfl (by kernel_rfl) (by rfl) hd (fun _ _ _ h => h) ?_ ?_
              ·intro W' hS'
               have q3 : W'.cell? ⟨w.heap.size, 5, none⟩ = some (.slice (some ⟨b, off, none⟩) s6.nA s6.cA) := hS'.cell b5 (by show ¬ wc.heap.size ≤ w.heap.size; omega)
               go_simp
              refine zT 4 (.int .i64 (t : Int)) rfl (by kernel_rfl) (by rfl) hd (fun _ _ _ h => h) ?_ ?_
              ·intro W' hS'
               go_simp
              refine zT 5 (.pointer (some ⟨b, off + t * 11, none⟩)) rfl (by kernel_rfl) (by rfl) hd (fun _ _ _ h => h) ?_ ?_
              ·intro W' hS'
               go_simp
              refine zT 6 (.agg #[.int .i64 y0, .int .i64 y1, .int .i64 y2, .int .i64 y3, .int .i64 y4, .int .i64 y5, .int .i64 y6, .int .i64 y7, .int .i64 y8, .bool y9, .int .i64 y10]) rfl (by kernel_rfl) (by rfl) hd (fun _ _ _ h => h) ?_ ?_
              ·intro W' hS'
               exact run_load_struct (sz := 11) (b := b) (off := off + t * 11) rfl STAlloc (by go_simp) (fun j u hu => hS'.cell (HCE.out j u hu) (by show ¬ wc.heap.size ≤ b; omega)) rfl
              simp only [Act.put, zA, zB, zC, zD, zE, zF]
              refine wpAnyH_all (rs := [1, 7]) (by kernel_rfl) (by simp) (List.forall_mem_cons.2 ⟨?_, List.forall_mem_cons.2 ⟨?_, fun _ h => absurd h (by simp)⟩⟩)
              refine wpOp_val (v := .slice AO out.length co) (w' := Wd) rfl (by rfl) (by have q1 : Wd.cell? ⟨wc.heap.size, 2, none⟩ = some (.slice AO out.length co) := hd0.c0 o2; go_simp) ⟨hd, ?_⟩
              (try simp only [Act.put, zA, zB, zC, zD, zE, zF])
              refine zO 7 (by kernel_rfl) ?_
              refine wpOp_slice1 rfl (by rfl) 25 _ rfl SRAlloc #[.int .i64 y0, .int .i64 y1, .int .i64 y2, .int .i64 y3, .int .i64 y4, .int .i64 y5, .int .i64 y6, .int .i64 y7, .int .i64 y8, .bool y9, .int .i64 y10] rfl rfl ⟨hd.alloc _, ?_⟩
              simp only [Act.put, zA, zB, zC, zD, zE, zF]
              rotate_left
              refine wpOp_slice1 rfl (by rfl) 25 _ rfl SRAlloc #[.int .i64 y0, .int .i64 y1, .int .i64 y2, .int .i64 y3, .int .i64 y4, .int .i64 y5, .int .i64 y6, .int .i64 y7, .int .i64 y8, .bool y9, .int .i64 y10] rfl rfl ⟨hd.alloc _, ?_⟩
              simp only [Act.put, zA, zB, zC, zD, zE, zF]
              refine zO 1 (by kernel_rfl) ?_
              refine wpOp_val (v := .slice AO out.length co) (w' := (Wd.alloc (.cells #[.int .i64 y0, .int .i64 y1, .int .i64 y2, .int .i64 y3, .int .i64 y4, .int .i64 y5, .int .i64 y6, .int .i64 y7, .int .i64 y8, .bool y9, .int .i64 y10] 58))) rfl (by rfl) (by have q1 : (Wd.alloc (.cells #[.int .i64 y0, .int .i64 y1, .int .i64 y2, .int .i64 y3, .int .i64 y4, .int .i64 y5, .int .i64 y6, .int .i64 y7, .int .i64 y8, .bool y9, .int .i64 y10] 58)).cell? ⟨wc.heap.size, 2, none⟩ = some (.slice AO out.length co) := (hd0.alloc _).c0 o2; go_simp) ⟨hd.alloc _, ?_⟩
              (try simp only [Act.put, zA, zB, zC, zD, zE, zF])
              all_goals (
               have hx6 : Ext Nothing wq (Wd.alloc (.cells #[.int .i64 y0, .int .i64 y1, .int .i64 y2, .int .i64 y3, .int .i64 y4, .int .i64 y5, .int .i64 y6, .int .i64 y7, .int .i64 y8, .bool y9, .int .i64 y10] 58)) := hd0.alloc _
               have hs6 : Ext (fun q => wc.heap.size ≤ q) wq (Wd.alloc (.cells #[.int .i64 y0, .int .i64 y1, .int .i64 y2, .int .i64 y3, .int .i64 y4, .int .i64 y5, .int .i64 y6, .int .i64 y7, .int .i64 y8, .bool y9, .int .i64 y10] 58)) := hd.alloc _
               have hb6 : Blk (Wd.alloc (.cells #[.int .i64 y0, .int .i64 y1, .int .i64 y2, .int .i64 y3, .int .i64 y4, .int .i64 y5, .int .i64 y6, .int .i64 y7, .int .i64 y8, .bool y9, .int .i64 y10] 58)) Wd.heap.size 58 #[.int .i64 y0, .int .i64 y1, .int .i64 y2, .int .i64 y3, .int .i64 y4, .int .i64 y5, .int .i64 y6, .int .i64 y7, .int .i64 y8, .bool y9, .int .i64 y10] := Blk.new _ _ _
               clear hd hd0
               generalize Wd.heap.size = pb at hb6 ⊢
               generalize Wd.alloc (.cells #[.int .i64 y0, .int .i64 y1, .int .i64 y2, .int .i64 y3, .int .i64 y4, .int .i64 y5, .int .i64 y6, .int .i64 y7, .int .i64 y8, .bool y9, .int .i64 y10] 58) = W6 at hx6 hs6 hb6 ⊢
               have hown6 := own_ext hownq hx6 (fun _ _ e => e)
               have hO6 := hOq.e0 hx6
               have hxq6 := hxq.tr hx6
               have hz6 := hxq6.size
               refine zO 8 (by kernel_rfl) ?_
               refine wpOp_app1 rfl (by rfl) _ _ 25 rfl wc.heap.size SRAlloc (.slice AO out.length co) out.length (out.flatMap AllocD.cells) rfl hown6 pb 1 #[.int .i64 y0, .int .i64 y1, .int .i64 y2, .int .i64 y3, .int .i64 y4, .int .i64 y5, .int .i64 y6, .int .i64 y7, .int .i64 y8, .bool y9, .int .i64 y10] rfl hb6 rfl rfl hbn hz6 ?_
               intro A1 c1 wa owna ga
               have hxa : Ext (fun q => (Value.slice AO out.length co).ownBlock = some q) W6 wa := Ext.of_grown ga (fun _ e => e)
               have hsa6 := hs6.trans hxa (fun q hq e => own_ge hown6 e)
               refine ⟨hsa6, ?_⟩
               simp only [Act.put, zA, zB, zC, zD, zE, zF]
               have hOa := hO6.ext hxa (own_ne hown6 hO6 (by decide))
               have o2a : wa.cell? ⟨wc.heap.size, 2, none⟩ = some (.slice AO out.length co) := hOa.cell 2
               have o2f : wa.frozen? ⟨wc.heap.size, 2, none⟩ = false := hOa.frozen 2
               refine zO 9 (by kernel_rfl) ?_
               refine wpOp_val (v := .pointer (some ⟨wc.heap.size, 2, none⟩)) (w' := wa) rfl (by rfl) (by go_simp) ⟨hsa6, ?_⟩
               (try simp only [Act.put, zA, zB, zC, zD, zE, zF])
               refine zO 10 (by kernel_rfl) ?_
               refine wpOp_none (w' := (wa.setCell ⟨wc.heap.size, 2, none⟩ (.slice A1 (out.length + 1) c1))) rfl (by rfl) (by go_simp) ⟨hsa6.setCell (p := ⟨wc.heap.size, 2, none⟩) (.inr (Nat.le_refl _)) _, ?_⟩
               (try simp only [Act.put, zA, zB, zC, zD, zE, zF])
               refine wpAnyH_done (by kernel_rfl) ?_ _
               (try simp only [Act.put, zA, zB, zC, zD, zE, zF])
               have hsa : Ext (fun q => q = wc.heap.size) wa (wa.setCell ⟨wc.heap.size, 2, none⟩ (.slice A1 (out.length + 1) c1)) := Ext.set1 _ _ _ _
               have hown1 := own_snoc (x := (⟨y0, y1, y2, y3, y4, y5, y6, ⟨y7, y8⟩, y9, y10⟩ : AllocD)) owna rfl rfl
               have hbl := hOa.set_ 2 (.slice A1 (out.length + 1) c1)
               have HLL := Lib.hid (show (out ++ [(⟨y0, y1, y2, y3, y4, y5, y6, ⟨y7, y8⟩, y9, y10⟩ : AllocD)]).length = out.length + 1 by simp)
               have HXA := Lib.hid (hxq6.trans hxa (fun q hq e => absurd (own_ge hown6 e) (by omega)))
               clear hsa6 o2a o2f owna ga
               go_wp2_with (first | go_skip | go_guarded)
               go_roundw
               case rel => exact ⟨t + 1, HT.out, by go_num, out ++ [(⟨y0, y1, y2, y3, y4, y5, y6, ⟨y7, y8⟩, y9, y10⟩ : AllocD)], A1, c1, HO2.out, by have := HOL.out; have := HLL.out; omega, own_ext hown1 hsa (fun g hg e => own_ne hown1 hOa (by decide) (by rw [← (show g = wc.heap.size from e)]; exact hg)), by rw [HLL.out]; exact hbl, HXA.out.trans hsa (fun q hq e => absurd (show q = wc.heap.size from e) (by omega))⟩
               case measure => have := HT.out; simp [intOf]; omega)
           ·have hnl2 : ¬ ((t : Int) < s6.nA) := by omega
            have HR := Lib.hid (show out = s6.allocs.filter (fun a => a.node == c.node.id && !overB a) by rw [hout, List.take_of_length_le (by have := H6A.out; omega)])
            clear hout
            go_upto_region 38 with (first | go_skip | go_guarded)
            refine zH (S := fun q => q = (w.heap.size + 1 + 1) ∨ q = (w.heap.size + 1 + 1 + 1)) (by kernel_rfl) (fun Wd hd hd0 => ?_)
            refine zT 0 (.agg ({ s6 with AE := A7, nE := n7, cE := c7, evals := l7 } : StoreV).arr) rfl (by kernel_rfl) (by rfl) hd (fun _ _ _ h => h) ?_ ?_
            ·intro W' hS'
             exact run_load_blk rfl STStore (by go_simp) (hB.ext hS' (by omega)) rfl
            refine zT 1 (.agg #[.int .i64 0, .int .i64 c.node.epoch, .slice AO out.length co]) rfl (by kernel_rfl) (by rfl) hd (fun _ _ _ h => h) ?_ ?_
            ·intro W' hS'
             exact run_load_blk rfl STResult (by go_simp) (hOr.ext hS' (by omega)) rfl
            simp only [Act.put, zA, zB, zC, zD, zE, zF]
            refine zO 2 (by kernel_rfl) ?_
            refine wpOp_store (p := (w.heap.size + 1 + 1)) (cs := ({ s6 with AE := A7, nE := n7, cE := c7, evals := l7 } : StoreV).arr) rfl (by rfl) rfl (by go_simp) (by go_simp) (hR.e0 hd0) rfl STStore rfl rfl (fun w2 hR2 hx2 => ?_)
            have hd2 := hd.trans hx2 (fun q hq e => .inl e)
            refine ⟨hd2, ?_⟩
            simp only [Act.put, zA, zB, zC, zD, zE, zF]
            refine zO 3 (by kernel_rfl) ?_
            refine wpOp_store (p := (w.heap.size + 1 + 1 + 1)) (cs := #[.int .i64 0, .int .i64 c.node.epoch, .slice AO out.length co]) rfl (by rfl) rfl (by go_simp) (by go_simp) ((hEr.e0 hd0).ext hx2 (fun e => absurd (show (w.heap.size + 1 + 1 + 1) = (w.heap.size + 1 + 1) from e) (by omega))) rfl STResult rfl rfl (fun w3 hE3 hx3' => ?_)
            have hx3 := hd2.trans hx3' (fun q hq e => .inr e)
            have hR3 := hR2.ext hx3' (fun e => absurd (show (w.heap.size + 1 + 1) = (w.heap.size + 1 + 1 + 1) from e) (by omega))
            refine ⟨hx3, wpAnyH_done (by kernel_rfl) ?_ _⟩
            simp only [Act.put, zA, zB, zC, zD, zE, zF]
            go_wp2
            have hx73 : Ext (fun q => q = (w.heap.size + 1 + 1) ∨ q = (w.heap.size + 1 + 1 + 1)) wc w3 := (hx.mono (fun _ _ e => e.elim)).trans hx3 (fun b hb e => e)
            exact bodyPost_ret (results_cell2 rfl STStore STResult rfl rfl hR3 rfl hE3 rfl) rfl ⟨({ s6 with AE := A7, nE := n7, cE := c7, evals := l7 } : StoreV), ⟨0, c.node.epoch, out⟩, .slice AO out.length co, rfl, hO7.keep hx73 (fun q e => by rcases e with rfl | rfl; exact ⟨_, _, hR7, by decide⟩; exact ⟨_, _, hE7, by decide⟩), by rw [HF5.out, HR.out], ⟨AO, co, rfl, .inr (own_base (own_ext hown hx3 (fun g hg e => by have := own_ge hown hg; omega)) hbc)⟩, hx7.trans hx73 (fun b hb e => absurd e (by omega))⟩
end Go.Proofs.YtlpfcmnnmdhaoaaGreat
