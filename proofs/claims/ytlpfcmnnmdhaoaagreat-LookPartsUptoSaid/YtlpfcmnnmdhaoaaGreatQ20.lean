/- Parts of the proof: RefPlace -/
import Derived.Deep.CutRange
import Derived.Test.YtlpfcmnnmdhaoaaGreatQ12
import Derived.Test.YtlpfcmnnmdhaoaaGreatQ10
import Derived.Test.YtlpfcmnnmdhaoaaGreatQ03
import Derived.Test.YtlpfcmnnmdhaoaaGreatQ05
import Derived.Test.YtlpfcmnnmdhaoaaGreatQ17
namespace Go.Proofs.YtlpfcmnnmdhaoaaGreat
set_option linter.unusedVariables false
set_option linter.unusedSimpArgs false
set_option linter.unusedSectionVars false
open Go.RowKit
def SameP (s t : StoreV) : Prop := ∃ A n c l nx, t = ({ s with AA := A, nA := n, cA := c, allocs := l, next := nx } : StoreV) ∧ l.length ≤ s.allocs.length + 1
def placeR (s : StoreD) (j : JobD) (n : NodD) (x : AllocD) : StoreD := bif Fsm.mayP s j n x then Fsm.placed s j n x else s
def hitB (j0 x3 x4 j1 j5 : Int) (a : AllocD) : Bool := a.job == j0 && a.group == x3 && a.index == x4 && (!overB a || (j1 == 2 && a.ver == j5 && a.state == 3))
theorem placeR_no {s : StoreD} {j : JobD} {n : NodD} {x : AllocD} (h : Fsm.mayP s j n x = false) : placeR s j n x = s := by unfold placeR; rw [h]; rfl
theorem placeR_yes {s : StoreD} {j : JobD} {n : NodD} {x : AllocD} (h : Fsm.mayP s j n x = true) : placeR s j n x = Fsm.placed s j n x := by unfold placeR; rw [h]; rfl
set_option maxRecDepth 20000 in
set_option maxHeartbeats 16000000 in
theorem refPlace (base : Nat) (s : StoreV) (j0 j1 j2 j3 : Int) (jg : List GroupD) (j5 : Int) (j6 : Bool) (GA : Option Addr) (gn gc : Nat) (n0 n1 n2 : Int) (n3 n4 : Bool) (n5 n6 n7 : Int) (x0 x1 x2 x3 x4 x5 x6 x7 x8 : Int) (x9 : Bool) (x10 : Int) (w : World)
  (h : OwnS base w s) (hb : base ≤ w.heap.size) (hA : s.allocs.length ≤ 16777216) (hG : Sl w 3 GA gn (jg.map GroupD.cells)) (hgn : gn ≤ 1048576) :
  Calls Tryz.prog 81 #[.agg s.arr, .agg #[.int .i64 j0, .int .i64 j1, .int .i64 j2, .int .i64 j3, .slice GA gn gc, .int .i64 j5, .bool j6], .agg #[.int .i64 n0, .int .i64 n1, .int .i64 n2, .bool n3, .bool n4, .int .i64 n5, .int .i64 n6, .int .i64 n7], .agg #[.int .i64 x0, .int .i64 x1, .int .i64 x2, .int .i64 x3, .int .i64 x4, .int .i64 x5, .int .i64 x6, .int .i64 x7, .int .i64 x8, .bool x9, .int .i64 x10]] w fun e w' => ∃ s', e = .returned (.tuple #[.agg s'.arr, .bool (Fsm.mayP s.data ⟨j0, j1, j2, j3, jg, j5, j6⟩ ⟨n0, ⟨n1, n2⟩, n3, n4, n5, n6, n7⟩ ⟨x0, x1, x2, x3, x4, x5, x6, ⟨x7, x8⟩, x9, x10⟩)]) ∧ OwnS base w' s' ∧ s'.data = placeR s.data ⟨j0, j1, j2, j3, jg, j5, j6⟩ ⟨n0, ⟨n1, n2⟩, n3, n4, n5, n6, n7⟩ ⟨x0, x1, x2, x3, x4, x5, x6, ⟨x7, x8⟩, x9, x10⟩ ∧ SameP s s' ∧ Ext Nothing w w' := by
 have hxW : Ext Nothing w (((((w.alloc (.cells s.arr 30)).alloc (.cells #[.int .i64 j0, .int .i64 j1, .int .i64 j2, .int .i64 j3, .slice GA gn gc, .int .i64 j5, .bool j6] 39)).alloc (.cells #[.int .i64 n0, .int .i64 n1, .int .i64 n2, .bool n3, .bool n4, .int .i64 n5, .int .i64 n6, .int .i64 n7] 43)).alloc (.cells #[.int .i64 x0, .int .i64 x1, .int .i64 x2, .int .i64 x3, .int .i64 x4, .int .i64 x5, .int .i64 x6, .int .i64 x7, .int .i64 x8, .bool x9, .int .i64 x10] 58)).alloc (.cells #[.int .i64 0, .int .i64 0, .slice none 0 0, .slice none 0 0, .slice none 0 0, .slice none 0 0, .slice none 0 0, .slice none 0 0, .slice none 0 0] 30)) := Ext.auto
 have hBW : Blk (((((w.alloc (.cells s.arr 30)).alloc (.cells #[.int .i64 j0, .int .i64 j1, .int .i64 j2, .int .i64 j3, .slice GA gn gc, .int .i64 j5, .bool j6] 39)).alloc (.cells #[.int .i64 n0, .int .i64 n1, .int .i64 n2, .bool n3, .bool n4, .int .i64 n5, .int .i64 n6, .int .i64 n7] 43)).alloc (.cells #[.int .i64 x0, .int .i64 x1, .int .i64 x2, .int .i64 x3, .int .i64 x4, .int .i64 x5, .int .i64 x6, .int .i64 x7, .int .i64 x8, .bool x9, .int .i64 x10] 58)).alloc (.cells #[.int .i64 0, .int .i64 0, .slice none 0 0, .slice none 0 0, .slice none 0 0, .slice none 0 0, .slice none 0 0, .slice none 0 0, .slice none 0 0] 30)) w.heap.size 30 s.arr := (Blk.new w _ _).e0 Ext.auto
 have hJW : Blk (((((w.alloc (.cells s.arr 30)).alloc (.cells #[.int .i64 j0, .int .i64 j1, .int .i64 j2, .int .i64 j3, .slice GA gn gc, .int .i64 j5, .bool j6] 39)).alloc (.cells #[.int .i64 n0, .int .i64 n1, .int .i64 n2, .bool n3, .bool n4, .int .i64 n5, .int .i64 n6, .int .i64 n7] 43)).alloc (.cells #[.int .i64 x0, .int .i64 x1, .int .i64 x2, .int .i64 x3, .int .i64 x4, .int .i64 x5, .int .i64 x6, .int .i64 x7, .int .i64 x8, .bool x9, .int .i64 x10] 58)).alloc (.cells #[.int .i64 0, .int .i64 0, .slice none 0 0, .slice none 0 0, .slice none 0 0, .slice none 0 0, .slice none 0 0, .slice none 0 0, .slice none 0 0] 30)) (w.heap.size + 1) 39 #[.int .i64 j0, .int .i64 j1, .int .i64 j2, .int .i64 j3, .slice GA gn gc, .int .i64 j5, .bool j6] := (Blk.new' (w.alloc (.cells s.arr 30)) _ _ (by simp)).e0 Ext.auto
 have hNW : Blk (((((w.alloc (.cells s.arr 30)).alloc (.cells #[.int .i64 j0, .int .i64 j1, .int .i64 j2, .int .i64 j3, .slice GA gn gc, .int .i64 j5, .bool j6] 39)).alloc (.cells #[.int .i64 n0, .int .i64 n1, .int .i64 n2, .bool n3, .bool n4, .int .i64 n5, .int .i64 n6, .int .i64 n7] 43)).alloc (.cells #[.int .i64 x0, .int .i64 x1, .int .i64 x2, .int .i64 x3, .int .i64 x4, .int .i64 x5, .int .i64 x6, .int .i64 x7, .int .i64 x8, .bool x9, .int .i64 x10] 58)).alloc (.cells #[.int .i64 0, .int .i64 0, .slice none 0 0, .slice none 0 0, .slice none 0 0, .slice none 0 0, .slice none 0 0, .slice none 0 0, .slice none 0 0] 30)) (w.heap.size + 1 + 1) 43 #[.int .i64 n0, .int .i64 n1, .int .i64 n2, .bool n3, .bool n4, .int .i64 n5, .int .i64 n6, .int .i64 n7] := (Blk.new' ((w.alloc (.cells s.arr 30)).alloc (.cells #[.int .i64 j0, .int .i64 j1, .int .i64 j2, .int .i64 j3, .slice GA gn gc, .int .i64 j5, .bool j6] 39)) _ _ (by simp)).e0 Ext.auto
 have hXW : Blk (((((w.alloc (.cells s.arr 30)).alloc (.cells #[.int .i64 j0, .int .i64 j1, .int .i64 j2, .int .i64 j3, .slice GA gn gc, .int .i64 j5, .bool j6] 39)).alloc (.cells #[.int .i64 n0, .int .i64 n1, .int .i64 n2, .bool n3, .bool n4, .int .i64 n5, .int .i64 n6, .int .i64 n7] 43)).alloc (.cells #[.int .i64 x0, .int .i64 x1, .int .i64 x2, .int .i64 x3, .int .i64 x4, .int .i64 x5, .int .i64 x6, .int .i64 x7, .int .i64 x8, .bool x9, .int .i64 x10] 58)).alloc (.cells #[.int .i64 0, .int .i64 0, .slice none 0 0, .slice none 0 0, .slice none 0 0, .slice none 0 0, .slice none 0 0, .slice none 0 0, .slice none 0 0] 30)) (w.heap.size + 1 + 1 + 1) 58 #[.int .i64 x0, .int .i64 x1, .int .i64 x2, .int .i64 x3, .int .i64 x4, .int .i64 x5, .int .i64 x6, .int .i64 x7, .int .i64 x8, .bool x9, .int .i64 x10] := (Blk.new' (((w.alloc (.cells s.arr 30)).alloc (.cells #[.int .i64 j0, .int .i64 j1, .int .i64 j2, .int .i64 j3, .slice GA gn gc, .int .i64 j5, .bool j6] 39)).alloc (.cells #[.int .i64 n0, .int .i64 n1, .int .i64 n2, .bool n3, .bool n4, .int .i64 n5, .int .i64 n6, .int .i64 n7] 43)) _ _ (by simp)).e0 Ext.auto
 have hRW : Blk (((((w.alloc (.cells s.arr 30)).alloc (.cells #[.int .i64 j0, .int .i64 j1, .int .i64 j2, .int .i64 j3, .slice GA gn gc, .int .i64 j5, .bool j6] 39)).alloc (.cells #[.int .i64 n0, .int .i64 n1, .int .i64 n2, .bool n3, .bool n4, .int .i64 n5, .int .i64 n6, .int .i64 n7] 43)).alloc (.cells #[.int .i64 x0, .int .i64 x1, .int .i64 x2, .int .i64 x3, .int .i64 x4, .int .i64 x5, .int .i64 x6, .int .i64 x7, .int .i64 x8, .bool x9, .int .i64 x10] 58)).alloc (.cells #[.int .i64 0, .int .i64 0, .slice none 0 0, .slice none 0 0, .slice none 0 0, .slice none 0 0, .slice none 0 0, .slice none 0 0, .slice none 0 0] 30)) (w.heap.size + 1 + 1 + 1 + 1) 30 #[.int .i64 0, .int .i64 0, .slice none 0 0, .slice none 0 0, .slice none 0 0, .slice none 0 0, .slice none 0 0, .slice none 0 0, .slice none 0 0] := Blk.new' _ _ _ (by simp)
 have HGL := Lib.hid hG.len
 have HMP := Lib.hid (show Fsm.mayP s.data ⟨j0, j1, j2, j3, jg, j5, j6⟩ ⟨n0, ⟨n1, n2⟩, n3, n4, n5, n6, n7⟩ ⟨x0, x1, x2, x3, x4, x5, x6, ⟨x7, x8⟩, x9, x10⟩ = (x1 == j0 && x2 == j5 && x6 == n6 && decide (0 ≤ x3) && (match jg[x3.toNat]? with | none => false | some g => decide ((⟨x7, x8⟩ : ResD) = g.ask) && (if j1 == 3 then x4 == n0 else decide (0 ≤ x4) && decide (x4 < g.count))) && !s.allocs.any (fun a => a.job == j0 && a.group == x3 && a.index == x4 && (!overB a || (j1 == 2 && a.ver == j5 && a.state == 3))) && fitsF (usedS s.allocs n0) ⟨x7, x8⟩ ⟨n1, n2⟩) from rfl)
 go_enter Tryz.func81, Tryz.ntmps81
 go_upto_region 1 with fail
 generalize (((((w.alloc (.cells s.arr 30)).alloc (.cells #[.int .i64 j0, .int .i64 j1, .int .i64 j2, .int .i64 j3, .slice GA gn gc, .int .i64 j5, .bool j6] 39)).alloc (.cells #[.int .i64 n0, .int .i64 n1, .int .i64 n2, .bool n3, .bool n4, .int .i64 n5, .int .i64 n6, .int .i64 n7] 43)).alloc (.cells #[.int .i64 x0, .int .i64 x1, .int .i64 x2, .int .i64 x3, .int .i64 x4, .int .i64 x5, .int .i64 x6, .int .i64 x7, .int .i64 x8, .bool x9, .int .i64 x10] 58)).alloc (.cells #[.int .i64 0, .int .i64 0, .slice none 0 0, .slice none 0 0, .slice none 0 0, .slice none 0 0, .slice none 0 0, .slice none 0 0, .slice none 0 0] 30)) = W at hxW hBW hJW hNW hXW hRW ⊢
 have hzW : w.heap.size + 1 + 1 + 1 + 1 < W.heap.size := hRW.lt
 have f1 : W.cell? ⟨w.heap.size + 1 + 1 + 1, 1, none⟩ = some (.int .i64 x1) := hXW.cell 1
 have f2 : W.cell? ⟨w.heap.size + 1 + 1 + 1, 2, none⟩ = some (.int .i64 x2) := hXW.cell 2
 have f3 : W.cell? ⟨w.heap.size + 1 + 1 + 1, 3, none⟩ = some (.int .i64 x3) := hXW.cell 3
 have f6 : W.cell? ⟨w.heap.size + 1 + 1 + 1, 6, none⟩ = some (.int .i64 x6) := hXW.cell 6
 have f7 : W.cell? ⟨w.heap.size + 1 + 1 + 1, 7, none⟩ = some (.int .i64 x7) := hXW.cell 7
 have f8 : W.cell? ⟨w.heap.size + 1 + 1 + 1, 8, none⟩ = some (.int .i64 x8) := hXW.cell 8
 have g0 : W.cell? ⟨w.heap.size + 1, 0, none⟩ = some (.int .i64 j0) := hJW.cell 0
 have g5 : W.cell? ⟨w.heap.size + 1, 5, none⟩ = some (.int .i64 j5) := hJW.cell 5
 have g4 : W.cell? ⟨w.heap.size + 1, 4, none⟩ = some (.slice GA gn gc) := hJW.cell 4
 have m6 : W.cell? ⟨w.heap.size + 1 + 1, 6, none⟩ = some (.int .i64 n6) := hNW.cell 6
 cases p1 : (x1 != j0) with
 | true =>
  go_quiet (fail)
  have hdq := (Ext.refl Nothing W).drewN nq
  generalize W.drewN nq = wq at hdq ⊢
  have hBq := hBW.e0 hdq
  have hJq := hJW.e0 hdq
  have hNq := hNW.e0 hdq
  have hXq := hXW.e0 hdq
  have hRq := hRW.e0 hdq
  have hxq := hxW.tr hdq
  have HM := Lib.hid (show Fsm.mayP s.data ⟨j0, j1, j2, j3, jg, j5, j6⟩ ⟨n0, ⟨n1, n2⟩, n3, n4, n5, n6, n7⟩ ⟨x0, x1, x2, x3, x4, x5, x6, ⟨x7, x8⟩, x9, x10⟩ = false by rw [HMP.out, show (x1 == j0) = false from by simpa using p1]; simp)
  go_wp2_with (first | go_skip | go_guarded | ((with_reducible refine isW ?_); refine wpList_load_blk rfl 30 _ rfl STStore w.heap.size rfl s.arr (show Blk _ _ 30 _ from hBq) rfl ?_) | ((with_reducible refine isW ?_); refine wpList_store_blk rfl 30 _ _ rfl STStore (w.heap.size + 1 + 1 + 1 + 1) rfl s.arr rfl (show Blk _ _ 30 _ from hRq) rfl rfl rfl ?_; intro w9 hR9 hx9))
  exact bodyPost_ret (results_cell_tmp rfl STStore (g := (w.heap.size + 1 + 1 + 1 + 1)) rfl hR9 rfl) rfl ⟨s, by rw [HM.out]; rfl, h.keep0 (hxq.trans hx9 (fun b hb e => absurd (show b = (w.heap.size + 1 + 1 + 1 + 1) from e) (by omega))), (placeR_no HM.out).symm, ⟨s.AA, s.nA, s.cA, s.allocs, s.next, rfl, by omega⟩, hxq.trans hx9 (fun b hb e => absurd (show b = (w.heap.size + 1 + 1 + 1 + 1) from e) (by omega))⟩
 | false =>
  cases p2 : (x2 != j5) with
  | true =>
   go_quiet (fail)
   have hdq := (Ext.refl Nothing W).drewN nq
   generalize W.drewN nq = wq at hdq ⊢
   have hBq := hBW.e0 hdq
   have hJq := hJW.e0 hdq
   have hNq := hNW.e0 hdq
   have hXq := hXW.e0 hdq
   have hRq := hRW.e0 hdq
   have hxq := hxW.tr hdq
   have HM := Lib.hid (show Fsm.mayP s.data ⟨j0, j1, j2, j3, jg, j5, j6⟩ ⟨n0, ⟨n1, n2⟩, n3, n4, n5, n6, n7⟩ ⟨x0, x1, x2, x3, x4, x5, x6, ⟨x7, x8⟩, x9, x10⟩ = false by rw [HMP.out, show (x2 == j5) = false from by simpa using p2]; simp)
   go_wp2_with (first | go_skip | go_guarded | ((with_reducible refine isW ?_); refine wpList_load_blk rfl 30 _ rfl STStore w.heap.size rfl s.arr (show Blk _ _ 30 _ from hBq) rfl ?_) | ((with_reducible refine isW ?_); refine wpList_store_blk rfl 30 _ _ rfl STStore (w.heap.size + 1 + 1 + 1 + 1) rfl s.arr rfl (show Blk _ _ 30 _ from hRq) rfl rfl rfl ?_; intro w9 hR9 hx9))
   exact bodyPost_ret (results_cell_tmp rfl STStore (g := (w.heap.size + 1 + 1 + 1 + 1)) rfl hR9 rfl) rfl ⟨s, by rw [HM.out]; rfl, h.keep0 (hxq.trans hx9 (fun b hb e => absurd (show b = (w.heap.size + 1 + 1 + 1 + 1) from e) (by omega))), (placeR_no HM.out).symm, ⟨s.AA, s.nA, s.cA, s.allocs, s.next, rfl, by omega⟩, hxq.trans hx9 (fun b hb e => absurd (show b = (w.heap.size + 1 + 1 + 1 + 1) from e) (by omega))⟩
  | false =>
   cases p3 : (x6 != n6) with
   | true =>
    go_quiet (fail)
    have hdq := (Ext.refl Nothing W).drewN nq
    generalize W.drewN nq = wq at hdq ⊢
    have hBq := hBW.e0 hdq
    have hJq := hJW.e0 hdq
    have hNq := hNW.e0 hdq
    have hXq := hXW.e0 hdq
    have hRq := hRW.e0 hdq
    have hxq := hxW.tr hdq
    have HM := Lib.hid (show Fsm.mayP s.data ⟨j0, j1, j2, j3, jg, j5, j6⟩ ⟨n0, ⟨n1, n2⟩, n3, n4, n5, n6, n7⟩ ⟨x0, x1, x2, x3, x4, x5, x6, ⟨x7, x8⟩, x9, x10⟩ = false by rw [HMP.out, show (x6 == n6) = false from by simpa using p3]; simp)
    go_wp2_with (first | go_skip | go_guarded | ((with_reducible refine isW ?_); refine wpList_load_blk rfl 30 _ rfl STStore w.heap.size rfl s.arr (show Blk _ _ 30 _ from hBq) rfl ?_) | ((with_reducible refine isW ?_); refine wpList_store_blk rfl 30 _ _ rfl STStore (w.heap.size + 1 + 1 + 1 + 1) rfl s.arr rfl (show Blk _ _ 30 _ from hRq) rfl rfl rfl ?_; intro w9 hR9 hx9))
    exact bodyPost_ret (results_cell_tmp rfl STStore (g := (w.heap.size + 1 + 1 + 1 + 1)) rfl hR9 rfl) rfl ⟨s, by rw [HM.out]; rfl, h.keep0 (hxq.trans hx9 (fun b hb e => absurd (show b = (w.heap.size + 1 + 1 + 1 + 1) from e) (by omega))), (placeR_no HM.out).symm, ⟨s.AA, s.nA, s.cA, s.allocs, s.next, rfl, by omega⟩, hxq.trans hx9 (fun b hb e => absurd (show b = (w.heap.size + 1 + 1 + 1 + 1) from e) (by omega))⟩
   | false =>
    cases p4 : decide (x3 < 0) with
    | true =>
     go_quiet (fail)
     have hdq := (Ext.refl Nothing W).drewN nq
     generalize W.drewN nq = wq at hdq ⊢
     have hBq := hBW.e0 hdq
     have hJq := hJW.e0 hdq
     have hNq := hNW.e0 hdq
     have hXq := hXW.e0 hdq
     have hRq := hRW.e0 hdq
     have hxq := hxW.tr hdq
     have HM := Lib.hid (show Fsm.mayP s.data ⟨j0, j1, j2, j3, jg, j5, j6⟩ ⟨n0, ⟨n1, n2⟩, n3, n4, n5, n6, n7⟩ ⟨x0, x1, x2, x3, x4, x5, x6, ⟨x7, x8⟩, x9, x10⟩ = false by rw [HMP.out, show decide (0 ≤ x3) = false from by simp at p4 ⊢; omega]; simp)
     go_wp2_with (first | go_skip | go_guarded | ((with_reducible refine isW ?_); refine wpList_load_blk rfl 30 _ rfl STStore w.heap.size rfl s.arr (show Blk _ _ 30 _ from hBq) rfl ?_) | ((with_reducible refine isW ?_); refine wpList_store_blk rfl 30 _ _ rfl STStore (w.heap.size + 1 + 1 + 1 + 1) rfl s.arr rfl (show Blk _ _ 30 _ from hRq) rfl rfl rfl ?_; intro w9 hR9 hx9))
     exact bodyPost_ret (results_cell_tmp rfl STStore (g := (w.heap.size + 1 + 1 + 1 + 1)) rfl hR9 rfl) rfl ⟨s, by rw [HM.out]; rfl, h.keep0 (hxq.trans hx9 (fun b hb e => absurd (show b = (w.heap.size + 1 + 1 + 1 + 1) from e) (by omega))), (placeR_no HM.out).symm, ⟨s.AA, s.nA, s.cA, s.allocs, s.next, rfl, by omega⟩, hxq.trans hx9 (fun b hb e => absurd (show b = (w.heap.size + 1 + 1 + 1 + 1) from e) (by omega))⟩
    | false =>
     cases p5 : decide ((gn : Int) ≤ x3) with
     | true =>
      go_quiet (fail)
      have hdq := (Ext.refl Nothing W).drewN nq
      generalize W.drewN nq = wq at hdq ⊢
      have hBq := hBW.e0 hdq
      have hJq := hJW.e0 hdq
      have hNq := hNW.e0 hdq
      have hXq := hXW.e0 hdq
      have hRq := hRW.e0 hdq
      have hxq := hxW.tr hdq
      have HM := Lib.hid (show Fsm.mayP s.data ⟨j0, j1, j2, j3, jg, j5, j6⟩ ⟨n0, ⟨n1, n2⟩, n3, n4, n5, n6, n7⟩ ⟨x0, x1, x2, x3, x4, x5, x6, ⟨x7, x8⟩, x9, x10⟩ = false by rw [HMP.out, show jg[x3.toNat]? = none from List.getElem?_eq_none (by have := HGL.out; simp at p4 p5; omega)]; simp)
      go_wp2_with (first | go_skip | go_guarded | ((with_reducible refine isW ?_); refine wpList_load_blk rfl 30 _ rfl STStore w.heap.size rfl s.arr (show Blk _ _ 30 _ from hBq) rfl ?_) | ((with_reducible refine isW ?_); refine wpList_store_blk rfl 30 _ _ rfl STStore (w.heap.size + 1 + 1 + 1 + 1) rfl s.arr rfl (show Blk _ _ 30 _ from hRq) rfl rfl rfl ?_; intro w9 hR9 hx9))
      exact bodyPost_ret (results_cell_tmp rfl STStore (g := (w.heap.size + 1 + 1 + 1 + 1)) rfl hR9 rfl) rfl ⟨s, by rw [HM.out]; rfl, h.keep0 (hxq.trans hx9 (fun b hb e => absurd (show b = (w.heap.size + 1 + 1 + 1 + 1) from e) (by omega))), (placeR_no HM.out).symm, ⟨s.AA, s.nA, s.cA, s.allocs, s.next, rfl, by omega⟩, hxq.trans hx9 (fun b hb e => absurd (show b = (w.heap.size + 1 + 1 + 1 + 1) from e) (by omega))⟩
     | false =>
      have hx30 : (0 : Int) ≤ x3 := by simpa using p4
      have hx3n : x3 < (gn : Int) := by simpa using p5
      obtain ⟨hgx, b, off, hGe, hgce⟩ := hG.get hxW (k := x3.toNat) (by omega)
      have hgx2 : jg[x3.toNat]? = some jg[x3.toNat] := List.getElem?_eq_getElem hgx
      generalize jg[x3.toNat] = G at hgce hgx2
      obtain ⟨q0, ⟨q1, q2⟩⟩ := G
      rw [hGe] at g4
      have HGE := Lib.hid hGe
      have HGX := Lib.hid hgx2
      clear hGe hgx2
      have r0 : W.cell? ⟨b, off + x3.toNat * 3, none⟩ = some (.int .i64 q0) := hgce 0 _ rfl
      have r1 : W.cell? ⟨b, off + x3.toNat * 3 + 1, none⟩ = some (.int .i64 q1) := hgce 1 _ rfl
      have r2 : W.cell? ⟨b, off + x3.toNat * 3 + 2, none⟩ = some (.int .i64 q2) := hgce 2 _ rfl
      have r2' : W.cell? ⟨b, off + x3.toNat * 3 + 1 + 1, none⟩ = some (.int .i64 q2) := r2
      cases p6 : (x7 == q1) with
      | false =>
       go_quiet (fail)
       have hdq := (Ext.refl Nothing W).drewN nq
       generalize W.drewN nq = wq at hdq ⊢
       have hBq := hBW.e0 hdq
       have hJq := hJW.e0 hdq
       have hNq := hNW.e0 hdq
       have hXq := hXW.e0 hdq
       have hRq := hRW.e0 hdq
       have hxq := hxW.tr hdq
       have HM := Lib.hid (show Fsm.mayP s.data ⟨j0, j1, j2, j3, jg, j5, j6⟩ ⟨n0, ⟨n1, n2⟩, n3, n4, n5, n6, n7⟩ ⟨x0, x1, x2, x3, x4, x5, x6, ⟨x7, x8⟩, x9, x10⟩ = false by rw [HMP.out, HGX.out]; simp only []; rw [show decide ((⟨x7, x8⟩ : ResD) = ⟨q1, q2⟩) = false from decide_eq_false (fun e => by injection e with e1 e2; rw [e1] at p6; simp at p6)]; simp)
       go_wp2_with (first | go_skip | go_guarded | ((with_reducible refine isW ?_); refine wpList_load_blk rfl 30 _ rfl STStore w.heap.size rfl s.arr (show Blk _ _ 30 _ from hBq) rfl ?_) | ((with_reducible refine isW ?_); refine wpList_store_blk rfl 30 _ _ rfl STStore (w.heap.size + 1 + 1 + 1 + 1) rfl s.arr rfl (show Blk _ _ 30 _ from hRq) rfl rfl rfl ?_; intro w9 hR9 hx9))
       exact bodyPost_ret (results_cell_tmp rfl STStore (g := (w.heap.size + 1 + 1 + 1 + 1)) rfl hR9 rfl) rfl ⟨s, by rw [HM.out]; rfl, h.keep0 (hxq.trans hx9 (fun b hb e => absurd (show b = (w.heap.size + 1 + 1 + 1 + 1) from e) (by omega))), (placeR_no HM.out).symm, ⟨s.AA, s.nA, s.cA, s.allocs, s.next, rfl, by omega⟩, hxq.trans hx9 (fun b hb e => absurd (show b = (w.heap.size + 1 + 1 + 1 + 1) from e) (by omega))⟩
      | true =>
       cases p7 : (x8 == q2) with
       | false =>
        go_quiet (fail)
        have hdq := (Ext.refl Nothing W).drewN nq
        generalize W.drewN nq = wq at hdq ⊢
        have hBq := hBW.e0 hdq
        have hJq := hJW.e0 hdq
        have hNq := hNW.e0 hdq
        have hXq := hXW.e0 hdq
        have hRq := hRW.e0 hdq
        have hxq := hxW.tr hdq
        have HM := Lib.hid (show Fsm.mayP s.data ⟨j0, j1, j2, j3, jg, j5, j6⟩ ⟨n0, ⟨n1, n2⟩, n3, n4, n5, n6, n7⟩ ⟨x0, x1, x2, x3, x4, x5, x6, ⟨x7, x8⟩, x9, x10⟩ = false by rw [HMP.out, HGX.out]; simp only []; rw [show decide ((⟨x7, x8⟩ : ResD) = ⟨q1, q2⟩) = false from decide_eq_false (fun e => by injection e with e1 e2; rw [e2] at p7; simp at p7)]; simp)
        go_wp2_with (first | go_skip | go_guarded | ((with_reducible refine isW ?_); refine wpList_load_blk rfl 30 _ rfl STStore w.heap.size rfl s.arr (show Blk _ _ 30 _ from hBq) rfl ?_) | ((with_reducible refine isW ?_); refine wpList_store_blk rfl 30 _ _ rfl STStore (w.heap.size + 1 + 1 + 1 + 1) rfl s.arr rfl (show Blk _ _ 30 _ from hRq) rfl rfl rfl ?_; intro w9 hR9 hx9))
        exact bodyPost_ret (results_cell_tmp rfl STStore (g := (w.heap.size + 1 + 1 + 1 + 1)) rfl hR9 rfl) rfl ⟨s, by rw [HM.out]; rfl, h.keep0 (hxq.trans hx9 (fun b hb e => absurd (show b = (w.heap.size + 1 + 1 + 1 + 1) from e) (by omega))), (placeR_no HM.out).symm, ⟨s.AA, s.nA, s.cA, s.allocs, s.next, rfl, by omega⟩, hxq.trans hx9 (fun b hb e => absurd (show b = (w.heap.size + 1 + 1 + 1 + 1) from e) (by omega))⟩
       | true =>
        have HASK := Lib.hid (show decide ((⟨x7, x8⟩ : ResD) = ⟨q1, q2⟩) = true from decide_eq_true (by rw [show x7 = q1 from by simpa using p6, show x8 = q2 from by simpa using p7]))
        cases p8 : (j1 == 3) with
        | true =>
         have t1 : W.cell? ⟨w.heap.size + 1, 1, none⟩ = some (.int .i64 j1) := hJW.cell 1
         cases p9 : (x4 != n0) with
         | true =>
          go_quiet (fail)
          have hdq := (Ext.refl Nothing W).drewN nq
          generalize W.drewN nq = wq at hdq ⊢
          have hBq := hBW.e0 hdq
          have hJq := hJW.e0 hdq
          have hNq := hNW.e0 hdq
          have hXq := hXW.e0 hdq
          have hRq := hRW.e0 hdq
          have hxq := hxW.tr hdq
          have k1q : wq.cell? ⟨w.heap.size + 1, 1, none⟩ = some (.int .i64 j1) := hJq.cell 1
          have k4q : wq.cell? ⟨w.heap.size + 1 + 1 + 1, 4, none⟩ = some (.int .i64 x4) := hXq.cell 4
          have n0q : wq.cell? ⟨w.heap.size + 1 + 1, 0, none⟩ = some (.int .i64 n0) := hNq.cell 0
          have g4q : wq.cell? ⟨w.heap.size + 1, 4, none⟩ = some (.slice (some ⟨b, off, none⟩) gn gc) := hdq.c0 g4
          have x3q : wq.cell? ⟨w.heap.size + 1 + 1 + 1, 3, none⟩ = some (.int .i64 x3) := hXq.cell 3
          have r0q : wq.cell? ⟨b, off + x3.toNat * 3, none⟩ = some (.int .i64 q0) := hdq.c0 r0
          have HM := Lib.hid (show Fsm.mayP s.data ⟨j0, j1, j2, j3, jg, j5, j6⟩ ⟨n0, ⟨n1, n2⟩, n3, n4, n5, n6, n7⟩ ⟨x0, x1, x2, x3, x4, x5, x6, ⟨x7, x8⟩, x9, x10⟩ = false by rw [HMP.out, HGX.out]; simp only []; rw [if_pos p8, show (x4 == n0) = false from by simpa using p9]; simp)
          go_wp2_with (first | go_skip | go_guarded | ((with_reducible refine isW ?_); refine wpList_load_blk rfl 30 _ rfl STStore w.heap.size rfl s.arr (show Blk _ _ 30 _ from hBq) rfl ?_) | ((with_reducible refine isW ?_); refine wpList_store_blk rfl 30 _ _ rfl STStore (w.heap.size + 1 + 1 + 1 + 1) rfl s.arr rfl (show Blk _ _ 30 _ from hRq) rfl rfl rfl ?_; intro w9 hR9 hx9))
          exact bodyPost_ret (results_cell_tmp rfl STStore (g := (w.heap.size + 1 + 1 + 1 + 1)) rfl hR9 rfl) rfl ⟨s, by rw [HM.out]; rfl, h.keep0 (hxq.trans hx9 (fun b hb e => absurd (show b = (w.heap.size + 1 + 1 + 1 + 1) from e) (by omega))), (placeR_no HM.out).symm, ⟨s.AA, s.nA, s.cA, s.allocs, s.next, rfl, by omega⟩, hxq.trans hx9 (fun b hb e => absurd (show b = (w.heap.size + 1 + 1 + 1 + 1) from e) (by omega))⟩
         | false =>
          have HT := Lib.hid (show (if (j1 == 3) = true then x4 == n0 else decide (0 ≤ x4) && decide (x4 < q0)) = true by rw [if_pos p8]; simpa using p9)
          go_quiet (fail)
          have hdq := (Ext.refl Nothing W).drewN nq
          generalize W.drewN nq = wq at hdq ⊢
          have hBq := hBW.e0 hdq
          have hJq := hJW.e0 hdq
          have hNq := hNW.e0 hdq
          have hXq := hXW.e0 hdq
          have hRq := hRW.e0 hdq
          have hxq := hxW.tr hdq
          have k1q : wq.cell? ⟨w.heap.size + 1, 1, none⟩ = some (.int .i64 j1) := hJq.cell 1
          have k4q : wq.cell? ⟨w.heap.size + 1 + 1 + 1, 4, none⟩ = some (.int .i64 x4) := hXq.cell 4
          have n0q : wq.cell? ⟨w.heap.size + 1 + 1, 0, none⟩ = some (.int .i64 n0) := hNq.cell 0
          have g4q : wq.cell? ⟨w.heap.size + 1, 4, none⟩ = some (.slice (some ⟨b, off, none⟩) gn gc) := hdq.c0 g4
          have x3q : wq.cell? ⟨w.heap.size + 1 + 1 + 1, 3, none⟩ = some (.int .i64 x3) := hXq.cell 3
          have r0q : wq.cell? ⟨b, off + x3.toNat * 3, none⟩ = some (.int .i64 q0) := hdq.c0 r0
          go_upto_region 8 with (first | go_skip | go_guarded)
          have hnA : s.nA ≤ 16777216 := by have := h.al; omega
          have hal := Lib.hid h.al
          have hzV : w.heap.size + 1 + 1 + 1 + 1 < wq.heap.size := hRq.lt
          have hsa := (h.keep0 hxq).slA
          go_wp2
          go_loopw [10] (fun ki wr => ∃ t : Nat, t ≤ s.nA ∧ ki = .int .i64 t ∧ (s.allocs.take t).any (hitB j0 x3 x4 j1 j5) = false ∧ Ext Nothing wq wr) (fun ki _ => s.nA - (intOf ki).toNat)
          case atStart => exact ⟨0, Nat.zero_le _, rfl, rfl, Ext.refl _ _⟩
          case round =>
           obtain ⟨t, ht, rfl, hno, hx⟩ := hrel
           have hB1 := hBq.e0 hx
           have hJ1 := hJq.e0 hx
           have hX1 := hXq.e0 hx
           have hR1 := hRq.e0 hx
           have hN1 := hNq.e0 hx
           have c5 : wr.cell? ⟨w.heap.size, 5, none⟩ = some (.slice s.AA s.nA s.cA) := hB1.cell 5
           by_cases hlt : t < s.nA
           ·obtain ⟨hjn, d, doff, hAe, hce⟩ := hsa.get hx hlt
            have hnx : s.allocs.take (t + 1) = s.allocs.take t ++ [s.allocs[t]] := by rw [List.take_add_one, List.getElem?_eq_getElem hjn]; rfl
            have hmem : s.allocs[t] ∈ s.allocs := List.getElem_mem hjn
            generalize s.allocs[t] = y at hce hnx hmem
            obtain ⟨y0, y1, y2, y3, y4, y5, y6, ⟨y7, y8⟩, y9, y10⟩ := y
            rw [hAe] at c5
            have HA2 := Lib.hid hAe
            have HT2 := Lib.hid hlt
            have hi0 : (0 : Int) ≤ (t : Int) := by omega
            have hi1 : (t : Int) < s.nA := by omega
            have HANY := Lib.hid (show hitB j0 x3 x4 j1 j5 ⟨y0, y1, y2, y3, y4, y5, y6, ⟨y7, y8⟩, y9, y10⟩ = true → s.allocs.any (fun a => a.job == j0 && a.group == x3 && a.index == x4 && (!overB a || (j1 == 2 && a.ver == j5 && a.state == 3))) = true from fun e => List.any_eq_true.2 ⟨_, hmem, e⟩)
            have hnext : hitB j0 x3 x4 j1 j5 ⟨y0, y1, y2, y3, y4, y5, y6, ⟨y7, y8⟩, y9, y10⟩ = false → (s.allocs.take (t + 1)).any (hitB j0 x3 x4 j1 j5) = false := fun e => by rw [hnx, List.any_append, hno]; simp [e]
            clear hAe hnx hmem hno
            have hxQ : Ext Nothing wr (wr.alloc (.cells #[.int .i64 y0, .int .i64 y1, .int .i64 y2, .int .i64 y3, .int .i64 y4, .int .i64 y5, .int .i64 y6, .int .i64 y7, .int .i64 y8, .bool y9, .int .i64 y10] 58)) := Ext.auto
            have hQ : Blk (wr.alloc (.cells #[.int .i64 y0, .int .i64 y1, .int .i64 y2, .int .i64 y3, .int .i64 y4, .int .i64 y5, .int .i64 y6, .int .i64 y7, .int .i64 y8, .bool y9, .int .i64 y10] 58)) wr.heap.size 58 #[.int .i64 y0, .int .i64 y1, .int .i64 y2, .int .i64 y3, .int .i64 y4, .int .i64 y5, .int .i64 y6, .int .i64 y7, .int .i64 y8, .bool y9, .int .i64 y10] := Blk.new _ _ _
            have hB2 := hB1.e0 hxQ
            have hJ2 := hJ1.e0 hxQ
            have hX2 := hX1.e0 hxQ
            have hR2 := hR1.e0 hxQ
            have hx2 := (hxq.tr hx).tr hxQ
            go_upto_region 12 with (first | go_skip | ((with_reducible refine isW ?_); refine wpList_load_at rfl 58 _ rfl STAlloc d (doff + t * 11) rfl #[.int .i64 y0, .int .i64 y1, .int .i64 y2, .int .i64 y3, .int .i64 y4, .int .i64 y5, .int .i64 y6, .int .i64 y7, .int .i64 y8, .bool y9, .int .i64 y10] hce rfl ?_))
            have z1 : (wr.alloc (.cells #[.int .i64 y0, .int .i64 y1, .int .i64 y2, .int .i64 y3, .int .i64 y4, .int .i64 y5, .int .i64 y6, .int .i64 y7, .int .i64 y8, .bool y9, .int .i64 y10] 58)).cell? ⟨wr.heap.size, 1, none⟩ = some (.int .i64 y1) := hQ.cell 1
            have z2 : (wr.alloc (.cells #[.int .i64 y0, .int .i64 y1, .int .i64 y2, .int .i64 y3, .int .i64 y4, .int .i64 y5, .int .i64 y6, .int .i64 y7, .int .i64 y8, .bool y9, .int .i64 y10] 58)).cell? ⟨wr.heap.size, 2, none⟩ = some (.int .i64 y2) := hQ.cell 2
            have z3 : (wr.alloc (.cells #[.int .i64 y0, .int .i64 y1, .int .i64 y2, .int .i64 y3, .int .i64 y4, .int .i64 y5, .int .i64 y6, .int .i64 y7, .int .i64 y8, .bool y9, .int .i64 y10] 58)).cell? ⟨wr.heap.size, 3, none⟩ = some (.int .i64 y3) := hQ.cell 3
            have z4 : (wr.alloc (.cells #[.int .i64 y0, .int .i64 y1, .int .i64 y2, .int .i64 y3, .int .i64 y4, .int .i64 y5, .int .i64 y6, .int .i64 y7, .int .i64 y8, .bool y9, .int .i64 y10] 58)).cell? ⟨wr.heap.size, 4, none⟩ = some (.int .i64 y4) := hQ.cell 4
            have z10 : (wr.alloc (.cells #[.int .i64 y0, .int .i64 y1, .int .i64 y2, .int .i64 y3, .int .i64 y4, .int .i64 y5, .int .i64 y6, .int .i64 y7, .int .i64 y8, .bool y9, .int .i64 y10] 58)).cell? ⟨wr.heap.size, 10, none⟩ = some (.int .i64 y10) := hQ.cell 10
            have jj0 : (wr.alloc (.cells #[.int .i64 y0, .int .i64 y1, .int .i64 y2, .int .i64 y3, .int .i64 y4, .int .i64 y5, .int .i64 y6, .int .i64 y7, .int .i64 y8, .bool y9, .int .i64 y10] 58)).cell? ⟨w.heap.size + 1, 0, none⟩ = some (.int .i64 j0) := hJ2.cell 0
            have jj1 : (wr.alloc (.cells #[.int .i64 y0, .int .i64 y1, .int .i64 y2, .int .i64 y3, .int .i64 y4, .int .i64 y5, .int .i64 y6, .int .i64 y7, .int .i64 y8, .bool y9, .int .i64 y10] 58)).cell? ⟨w.heap.size + 1, 1, none⟩ = some (.int .i64 j1) := hJ2.cell 1
            have jj5 : (wr.alloc (.cells #[.int .i64 y0, .int .i64 y1, .int .i64 y2, .int .i64 y3, .int .i64 y4, .int .i64 y5, .int .i64 y6, .int .i64 y7, .int .i64 y8, .bool y9, .int .i64 y10] 58)).cell? ⟨w.heap.size + 1, 5, none⟩ = some (.int .i64 j5) := hJ2.cell 5
            have xx3 : (wr.alloc (.cells #[.int .i64 y0, .int .i64 y1, .int .i64 y2, .int .i64 y3, .int .i64 y4, .int .i64 y5, .int .i64 y6, .int .i64 y7, .int .i64 y8, .bool y9, .int .i64 y10] 58)).cell? ⟨w.heap.size + 1 + 1 + 1, 3, none⟩ = some (.int .i64 x3) := hX2.cell 3
            have xx4 : (wr.alloc (.cells #[.int .i64 y0, .int .i64 y1, .int .i64 y2, .int .i64 y3, .int .i64 y4, .int .i64 y5, .int .i64 y6, .int .i64 y7, .int .i64 y8, .bool y9, .int .i64 y10] 58)).cell? ⟨w.heap.size + 1 + 1 + 1, 4, none⟩ = some (.int .i64 x4) := hX2.cell 4
            cases u1 : (y1 != j0) with
            | true =>
             have HNH := Lib.hid (hnext (by unfold hitB overB; rw [show (y1 == j0) = false from by simpa using u1]; simp))
             go_wp2_with (first | go_skip | go_guarded)
             go_roundw
             case rel => exact ⟨t + 1, HT2.out, by go_num, HNH.out, hx.tr hxQ⟩
             case measure => have := HT2.out; simp [intOf]; omega
            | false =>
             cases u2 : (y3 != x3) with
             | true =>
              have HNH := Lib.hid (hnext (by unfold hitB overB; rw [show (y3 == x3) = false from by simpa using u2]; simp))
              go_wp2_with (first | go_skip | go_guarded)
              go_roundw
              case rel => exact ⟨t + 1, HT2.out, by go_num, HNH.out, hx.tr hxQ⟩
              case measure => have := HT2.out; simp [intOf]; omega
             | false =>
              cases u3 : (y4 != x4) with
              | true =>
               have HNH := Lib.hid (hnext (by unfold hitB overB; rw [show (y4 == x4) = false from by simpa using u3]; simp))
               go_wp2_with (first | go_skip | go_guarded)
               go_roundw
               case rel => exact ⟨t + 1, HT2.out, by go_num, HNH.out, hx.tr hxQ⟩
               case measure => have := HT2.out; simp [intOf]; omega
              | false =>
               cases u4 : decide (y10 < 3) with
               | true =>
                have HH := Lib.hid (show hitB j0 x3 x4 j1 j5 ⟨y0, y1, y2, y3, y4, y5, y6, ⟨y7, y8⟩, y9, y10⟩ = true by unfold hitB overB; rw [show (y1 == j0) = true from by simpa using u1, show (y3 == x3) = true from by simpa using u2, show (y4 == x4) = true from by simpa using u3]; rw [show decide (3 ≤ y10) = false from by simp at u4 ⊢; omega]; rfl)
                have HM := Lib.hid (show Fsm.mayP s.data ⟨j0, j1, j2, j3, jg, j5, j6⟩ ⟨n0, ⟨n1, n2⟩, n3, n4, n5, n6, n7⟩ ⟨x0, x1, x2, x3, x4, x5, x6, ⟨x7, x8⟩, x9, x10⟩ = false by rw [HMP.out, HANY.out HH.out]; simp)
                go_wp2_with (first | go_skip | go_guarded | ((with_reducible refine isW ?_); refine wpList_load_blk rfl 30 _ rfl STStore w.heap.size rfl s.arr (show Blk _ _ 30 _ from hB2) rfl ?_) | ((with_reducible refine isW ?_); refine wpList_store_blk rfl 30 _ _ rfl STStore (w.heap.size + 1 + 1 + 1 + 1) rfl s.arr rfl (show Blk _ _ 30 _ from hR2) rfl rfl rfl ?_; intro w9 hR9 hx9))
                exact bodyPost_ret (results_cell_tmp rfl STStore (g := (w.heap.size + 1 + 1 + 1 + 1)) rfl hR9 rfl) rfl ⟨s, by rw [HM.out]; rfl, h.keep0 (hx2.trans hx9 (fun b hb e => absurd (show b = (w.heap.size + 1 + 1 + 1 + 1) from e) (by omega))), (placeR_no HM.out).symm, ⟨s.AA, s.nA, s.cA, s.allocs, s.next, rfl, by omega⟩, hx2.trans hx9 (fun b hb e => absurd (show b = (w.heap.size + 1 + 1 + 1 + 1) from e) (by omega))⟩
               | false =>
                have ov : decide (3 ≤ y10) = true := by simp at u4 ⊢; omega
                cases u5 : (j1 == 2) with
                | false =>
                 have HNH := Lib.hid (hnext (by unfold hitB overB; rw [show (y1 == j0) = true from by simpa using u1, show (y3 == x3) = true from by simpa using u2, show (y4 == x4) = true from by simpa using u3]; rw [ov]; simp [u5]))
                 go_wp2_with (first | go_skip | go_guarded)
                 go_roundw
                 case rel => exact ⟨t + 1, HT2.out, by go_num, HNH.out, hx.tr hxQ⟩
                 case measure => have := HT2.out; simp [intOf]; omega
                | true =>
                 cases u6 : (y2 == j5) with
                 | false =>
                  have HNH := Lib.hid (hnext (by unfold hitB overB; rw [show (y1 == j0) = true from by simpa using u1, show (y3 == x3) = true from by simpa using u2, show (y4 == x4) = true from by simpa using u3]; rw [ov]; simp [u5, u6]))
                  go_wp2_with (first | go_skip | go_guarded)
                  go_roundw
                  case rel => exact ⟨t + 1, HT2.out, by go_num, HNH.out, hx.tr hxQ⟩
                  case measure => have := HT2.out; simp [intOf]; omega
                 | true =>
                  cases u7 : (y10 == 3) with
                  | false =>
                   have HNH := Lib.hid (hnext (by unfold hitB overB; rw [show (y1 == j0) = true from by simpa using u1, show (y3 == x3) = true from by simpa using u2, show (y4 == x4) = true from by simpa using u3]; rw [ov]; simp [u5, u6, u7]))
                   go_wp2_with (first | go_skip | go_guarded)
                   go_roundw
                   case rel => exact ⟨t + 1, HT2.out, by go_num, HNH.out, hx.tr hxQ⟩
                   case measure => have := HT2.out; simp [intOf]; omega
                  | true =>
                   have HH := Lib.hid (show hitB j0 x3 x4 j1 j5 ⟨y0, y1, y2, y3, y4, y5, y6, ⟨y7, y8⟩, y9, y10⟩ = true by unfold hitB overB; rw [show (y1 == j0) = true from by simpa using u1, show (y3 == x3) = true from by simpa using u2, show (y4 == x4) = true from by simpa using u3]; rw [ov, u5, u6, u7]; rfl)
                   have HM := Lib.hid (show Fsm.mayP s.data ⟨j0, j1, j2, j3, jg, j5, j6⟩ ⟨n0, ⟨n1, n2⟩, n3, n4, n5, n6, n7⟩ ⟨x0, x1, x2, x3, x4, x5, x6, ⟨x7, x8⟩, x9, x10⟩ = false by rw [HMP.out, HANY.out HH.out]; simp)
                   go_wp2_with (first | go_skip | go_guarded | ((with_reducible refine isW ?_); refine wpList_load_blk rfl 30 _ rfl STStore w.heap.size rfl s.arr (show Blk _ _ 30 _ from hB2) rfl ?_) | ((with_reducible refine isW ?_); refine wpList_store_blk rfl 30 _ _ rfl STStore (w.heap.size + 1 + 1 + 1 + 1) rfl s.arr rfl (show Blk _ _ 30 _ from hR2) rfl rfl rfl ?_; intro w9 hR9 hx9))
                   exact bodyPost_ret (results_cell_tmp rfl STStore (g := (w.heap.size + 1 + 1 + 1 + 1)) rfl hR9 rfl) rfl ⟨s, by rw [HM.out]; rfl, h.keep0 (hx2.trans hx9 (fun b hb e => absurd (show b = (w.heap.size + 1 + 1 + 1 + 1) from e) (by omega))), (placeR_no HM.out).symm, ⟨s.AA, s.nA, s.cA, s.allocs, s.next, rfl, by omega⟩, hx2.trans hx9 (fun b hb e => absurd (show b = (w.heap.size + 1 + 1 + 1 + 1) from e) (by omega))⟩
           ·have hnl : ¬ ((t : Int) < s.nA) := by omega
            have HNO := Lib.hid (show s.allocs.any (fun a => a.job == j0 && a.group == x3 && a.index == x4 && (!overB a || (j1 == 2 && a.ver == j5 && a.state == 3))) = false by rw [List.take_of_length_le (by have := hal.out; omega)] at hno; exact hno)
            clear hno
            generalize hU : usedS s.allocs n0 = U at HMP
            generalize hbf : fitsF U ⟨x7, x8⟩ ⟨n1, n2⟩ = bf at HMP
            have HU := Lib.hid hU
            have HBF := Lib.hid hbf
            clear hU hbf
            have hs1 := hsa.ext0 hx
            have hxr : Ext Nothing w wr := hxq.tr hx
            go_upto_region 15 with (first | go_skip | go_guarded)
            refine calm_region (by kernel_rfl) (by kernel_rfl) ?_
            refine calm_val (v := .agg s.arr) (by kernel_rfl) ?_ ?_
            ·intro W hW
             exact run_load_blk rfl STStore (by go_simp) (hB1.e0 hW) rfl
            simp only [Act.put, zA, zB, zC, zD, zE, zF]
            refine calm_val (v := .pointer (some ⟨w.heap.size + 1 + 1, 0, none⟩)) (by kernel_rfl) ?_ ?_
            ·intro W hW
             go_simp
            simp only [Act.put, zA, zB, zC, zD, zE, zF]
            refine calm_val (v := .int .i64 n0) (by kernel_rfl) ?_ ?_
            ·intro W hW
             have q5 : W.cell? ⟨w.heap.size + 1 + 1, 0, none⟩ = some (.int .i64 n0) := (hN1.e0 hW).cell 0
             go_simp
            simp only [Act.put, zA, zB, zC, zD, zE, zF]
            refine calm_call (v := .agg #[.int .i64 U.cpu, .int .i64 U.mem]) (f := 14) (args := #[.agg s.arr, .int .i64 n0]) (by kernel_rfl) (fun W hW => by go_simp) (fun W hW => (refUsed s.AA s.nA s.cA s.allocs n0 W (hs1.ext0 hW) (by omega) _ _ _ _ _ _ _ _).mono fun e w' ⟨he, hxu⟩ => ⟨by rw [he, HU.out], hW.tr hxu⟩) ?_
            simp only [Act.put, zA, zB, zC, zD, zE, zF]
            refine calm_val (v := .pointer (some ⟨w.heap.size + 1 + 1 + 1, 7, none⟩)) (by kernel_rfl) ?_ ?_
            ·intro W hW
             go_simp
            simp only [Act.put, zA, zB, zC, zD, zE, zF]
            refine calm_val (v := .agg #[.int .i64 x7, .int .i64 x8]) (by kernel_rfl) ?_ ?_
            ·intro W hW
             exact run_load_struct (sz := 2) (b := w.heap.size + 1 + 1 + 1) (off := 7) rfl STRes2 (by go_simp) (fun j u hu => by rw [(hX1.e0 hW).cell]; match j, hu with | 0, hu => exact hu | 1, hu => exact hu | (k + 2), hu => simp at hu) rfl
            simp only [Act.put, zA, zB, zC, zD, zE, zF]
            refine calm_val (v := .pointer (some ⟨w.heap.size + 1 + 1, 1, none⟩)) (by kernel_rfl) ?_ ?_
            ·intro W hW
             go_simp
            simp only [Act.put, zA, zB, zC, zD, zE, zF]
            refine calm_val (v := .agg #[.int .i64 n1, .int .i64 n2]) (by kernel_rfl) ?_ ?_
            ·intro W hW
             exact run_load_struct (sz := 2) (b := w.heap.size + 1 + 1) (off := 1) rfl STRes2 (by go_simp) (fun j u hu => by rw [(hN1.e0 hW).cell]; match j, hu with | 0, hu => exact hu | 1, hu => exact hu | (k + 2), hu => simp at hu) rfl
            simp only [Act.put, zA, zB, zC, zD, zE, zF]
            refine calm_call (v := .bool bf) (f := 96) (args := #[.agg #[.int .i64 U.cpu, .int .i64 U.mem], .agg #[.int .i64 x7, .int .i64 x8], .agg #[.int .i64 n1, .int .i64 n2]]) (by kernel_rfl) (fun W hW => by go_simp) (fun W hW => (ref06Fits U ⟨x7, x8⟩ ⟨n1, n2⟩ W).mono fun e w' ⟨he, hxu⟩ => ⟨by rw [he, HBF.out], hW.tr hxu⟩) ?_
            simp only [Act.put, zA, zB, zC, zD, zE, zF]
            refine calm_val (v := .bool bf) (by kernel_rfl) ?_ ?_
            ·intro W hW
             go_simp
            simp only [Act.put, zA, zB, zC, zD, zE, zF]
            refine calm_nil (fun Wf hWf => ?_)
            have hBf := hB1.e0 hWf
            have hRf := hR1.e0 hWf
            have hxf : Ext Nothing w Wf := hxr.tr hWf
            cases bf with
            | false =>
             have HM := Lib.hid (show Fsm.mayP s.data ⟨j0, j1, j2, j3, jg, j5, j6⟩ ⟨n0, ⟨n1, n2⟩, n3, n4, n5, n6, n7⟩ ⟨x0, x1, x2, x3, x4, x5, x6, ⟨x7, x8⟩, x9, x10⟩ = false by rw [HMP.out]; simp)
             go_wp2_with (first | go_skip | go_guarded | ((with_reducible refine isW ?_); refine wpList_load_blk rfl 30 _ rfl STStore w.heap.size rfl s.arr (show Blk _ _ 30 _ from hBf) rfl ?_) | ((with_reducible refine isW ?_); refine wpList_store_blk rfl 30 _ _ rfl STStore (w.heap.size + 1 + 1 + 1 + 1) rfl s.arr rfl (show Blk _ _ 30 _ from hRf) rfl rfl rfl ?_; intro w9 hR9 hx9))
             exact bodyPost_ret (results_cell_tmp rfl STStore (g := (w.heap.size + 1 + 1 + 1 + 1)) rfl hR9 rfl) rfl ⟨s, by rw [HM.out]; rfl, h.keep0 (hxf.trans hx9 (fun b hb e => absurd (show b = (w.heap.size + 1 + 1 + 1 + 1) from e) (by omega))), (placeR_no HM.out).symm, ⟨s.AA, s.nA, s.cA, s.allocs, s.next, rfl, by omega⟩, hxf.trans hx9 (fun b hb e => absurd (show b = (w.heap.size + 1 + 1 + 1 + 1) from e) (by omega))⟩
            | true =>
             have HM := Lib.hid (show Fsm.mayP s.data ⟨j0, j1, j2, j3, jg, j5, j6⟩ ⟨n0, ⟨n1, n2⟩, n3, n4, n5, n6, n7⟩ ⟨x0, x1, x2, x3, x4, x5, x6, ⟨x7, x8⟩, x9, x10⟩ = true by rw [HMP.out, HGX.out, show (x1 == j0) = true from by simpa using p1, show (x2 == j5) = true from by simpa using p2, show (x6 == n6) = true from by simpa using p3, show decide (0 ≤ x3) = true from by simpa using p4]; simp only []; rw [HASK.out, HT.out, HNO.out]; rfl)
             have hsf := hs1.ext0 hWf
             have hJf := hJ1.e0 hWf
             have hNf := hN1.e0 hWf
             have hXf := hX1.e0 hWf
             have f5 : Wf.cell? ⟨w.heap.size, 5, none⟩ = some (.slice s.AA s.nA s.cA) := hBf.cell 5
             go_upto_region 19 with (first | go_skip | go_guarded)
             go_upto_region 20 with (first | go_skip | (at_builtin; refine wpList_appS rfl _ _ 25 rfl Wf.heap.size SRAlloc (.slice none 0 0) 0 [] rfl (World.ownsRow_nil ..) s.AA s.nA s.cA (s.allocs.map AllocD.cells) rfl hsf (cellsOne (fun _ => rfl) _) (by omega) (Nat.le_refl _) ?_; intro A1 c1 wa oa ga; simp only [Nat.zero_add]))
             have hxa : Ext Nothing Wf wa := Ext.of_grown (S := Nothing) ga (fun b e => by simp [Value.ownBlock] at e)
             have o1 : wa.ownsRow Wf.heap.size 58 11 (.slice A1 s.nA c1) s.nA (s.allocs.flatMap AllocD.cells) := by have o := oa; rw [Nat.zero_add, List.nil_append, ← List.flatMap_def] at o; exact o
             have hBa := hBf.e0 hxa
             have hJa := hJf.e0 hxa
             have hNa := hNf.e0 hxa
             have hXa := hXf.e0 hxa
             have hRa := hRf.e0 hxa
             have a1 : wa.cell? ⟨w.heap.size, 1, none⟩ = some (.int .i64 s.next) := hBa.cell 1
             have a2 : wa.cell? ⟨w.heap.size + 1, 0, none⟩ = some (.int .i64 j0) := hJa.cell 0
             have a3 : wa.cell? ⟨w.heap.size + 1, 5, none⟩ = some (.int .i64 j5) := hJa.cell 5
             have a4 : wa.cell? ⟨w.heap.size + 1 + 1 + 1, 3, none⟩ = some (.int .i64 x3) := hXa.cell 3
             have a5 : wa.cell? ⟨w.heap.size + 1 + 1 + 1, 4, none⟩ = some (.int .i64 x4) := hXa.cell 4
             have a6 : wa.cell? ⟨w.heap.size + 1 + 1, 0, none⟩ = some (.int .i64 n0) := hNa.cell 0
             have a7 : wa.cell? ⟨w.heap.size + 1 + 1, 6, none⟩ = some (.int .i64 n6) := hNa.cell 6
             have hX7 : ∀ j u, (#[Value.int .i64 x7, .int .i64 x8] : Array Value).toList[j]? = some u → wa.cell? ⟨w.heap.size + 1 + 1 + 1, 7 + j, none⟩ = some u := fun j u hu => by rw [hXa.cell]; match j, hu with | 0, hu => exact hu | 1, hu => exact hu | (k + 2), hu => simp at hu
             have hbn : s.nA < 67108864 := by omega
             have hza := hxa.size
             go_upto_region 21 with (first | go_skip | ((with_reducible refine isW ?_); refine wpList_load_at rfl 41 _ rfl STRes2 (w.heap.size + 1 + 1 + 1) 7 rfl #[.int .i64 x7, .int .i64 x8] hX7 rfl ?_) | ((with_reducible refine isW2 ?_); refine wpList_push rfl rfl 25 _ rfl _ _ rfl SRAlloc #[.int .i64 s.next, .int .i64 j0, .int .i64 j5, .int .i64 x3, .int .i64 x4, .int .i64 n0, .int .i64 n6, .int .i64 x7, .int .i64 x8, .bool false, .int .i64 1] rfl rfl Wf.heap.size (.slice A1 s.nA c1) s.nA (s.allocs.flatMap AllocD.cells) rfl rfl o1 rfl hbn hza ?_; intro A2 c2 wb ob hxb))
             have hxab : Ext Nothing Wf wb := hxa.trans hxb (fun q hq e => absurd (own_ge o1 e) (by omega))
             have hBb := hBf.e0 hxab
             have hRb := hRf.e0 hxab
             have b5 : wb.cell? ⟨w.heap.size, 5, none⟩ = some (.slice s.AA s.nA s.cA) := hBb.cell 5
             have b5f : wb.frozen? ⟨w.heap.size, 5, none⟩ = false := hBb.frozen 5
             have hBc := hBb.set_ 5 (.slice A2 (s.nA + 1) c2)
             have d1 : (wb.setCell ⟨w.heap.size, 5, none⟩ (.slice A2 (s.nA + 1) c2)).cell? ⟨w.heap.size, 1, none⟩ = some (.int .i64 s.next) := hBc.cell 1
             have d1f : (wb.setCell ⟨w.heap.size, 5, none⟩ (.slice A2 (s.nA + 1) c2)).frozen? ⟨w.heap.size, 1, none⟩ = false := hBc.frozen 1
             have hBd := hBc.set_ 1 (.int .i64 (wrap64 (s.next + 1)))
             have hs1x : Ext (fun b => b = w.heap.size) wb (wb.setCell ⟨w.heap.size, 5, none⟩ (.slice A2 (s.nA + 1) c2)) := Ext.set1 _ _ _ _
             have hs2x : Ext (fun b => b = w.heap.size) (wb.setCell ⟨w.heap.size, 5, none⟩ (.slice A2 (s.nA + 1) c2)) ((wb.setCell ⟨w.heap.size, 5, none⟩ (.slice A2 (s.nA + 1) c2)).setCell ⟨w.heap.size, 1, none⟩ (.int .i64 (wrap64 (s.next + 1)))) := Ext.set1 _ _ _ _
             have hRd := (hRb.ext hs1x (fun e => absurd (show (w.heap.size + 1 + 1 + 1 + 1) = w.heap.size from e) (by omega))).ext hs2x (fun e => absurd (show (w.heap.size + 1 + 1 + 1 + 1) = w.heap.size from e) (by omega))
             go_wp2_with (first | go_skip | go_guarded | ((with_reducible refine isW ?_); refine wpList_load_blk rfl 30 _ rfl STStore w.heap.size rfl ({ s with AA := A2, nA := s.nA + 1, cA := c2, allocs := s.allocs ++ [(⟨s.next, j0, j5, x3, x4, n0, n6, ⟨x7, x8⟩, false, 1⟩ : AllocD)], next := wrap64 (s.next + 1) } : StoreV).arr (show Blk _ _ 30 _ from hBd) rfl ?_) | ((with_reducible refine isW ?_); refine wpList_store_blk rfl 30 _ _ rfl STStore (w.heap.size + 1 + 1 + 1 + 1) rfl ({ s with AA := A2, nA := s.nA + 1, cA := c2, allocs := s.allocs ++ [(⟨s.next, j0, j5, x3, x4, n0, n6, ⟨x7, x8⟩, false, 1⟩ : AllocD)], next := wrap64 (s.next + 1) } : StoreV).arr rfl (show Blk _ _ 30 _ from hRd) rfl rfl rfl ?_; intro w9 hR9 hx9))
             have ob2 := own_snoc (x := (⟨s.next, j0, j5, x3, x4, n0, n6, ⟨x7, x8⟩, false, 1⟩ : AllocD)) ob rfl hal.out.symm
             have hw3 : Ext Nothing w w9 := ((((hxf.tr hxab).trans hs1x (fun b hb e => absurd (show b = w.heap.size from e) (by omega))).trans hs2x (fun b hb e => absurd (show b = w.heap.size from e) (by omega)))).trans hx9 (fun b hb e => absurd (show b = (w.heap.size + 1 + 1 + 1 + 1) from e) (by omega))
             have hzf := hxf.size
             have hzf2 := hBf.lt
             have hzf3 := hRf.lt
             have ob3 := own_base (own_ext (own_ext (own_ext ob2 hs1x (fun g hg e => by have := own_ge ob2 hg; omega)) hs2x (fun g hg e => by have := own_ge ob2 hg; omega)) hx9 (fun g hg e => by have := own_ge ob2 hg; have := hBf.lt; have := hRf.lt; omega)) (show base ≤ Wf.heap.size by omega)
             have he : ({ s with AA := A2, nA := s.nA + 1, cA := c2, allocs := s.allocs ++ [(⟨s.next, j0, j5, x3, x4, n0, n6, ⟨x7, x8⟩, false, 1⟩ : AllocD)], next := wrap64 (s.next + 1) } : StoreV) = { (s.setA A2 c2 (s.allocs ++ [(⟨s.next, j0, j5, x3, x4, n0, n6, ⟨x7, x8⟩, false, 1⟩ : AllocD)])) with next := wrap64 (s.next + 1) } := by have := hal.out; simp [StoreV.setA, this]
             exact bodyPost_ret (results_cell_tmp rfl STStore (g := (w.heap.size + 1 + 1 + 1 + 1)) rfl hR9 rfl) rfl ⟨{ (s.setA A2 c2 (s.allocs ++ [(⟨s.next, j0, j5, x3, x4, n0, n6, ⟨x7, x8⟩, false, 1⟩ : AllocD)])) with next := wrap64 (s.next + 1) }, by rw [HM.out, ← he]; rfl, (h.wA hw3 Apart.none ob3).next _, by rw [placeR_yes HM.out]; rfl, ⟨A2, _, c2, s.allocs ++ [(⟨s.next, j0, j5, x3, x4, n0, n6, ⟨x7, x8⟩, false, 1⟩ : AllocD)], _, rfl, by rw [List.length_append]; exact Nat.le_refl _⟩, hw3⟩
        | false =>
         cases p9 : decide (x4 < 0) with
         | true =>
          go_quiet (fail)
          have hdq := (Ext.refl Nothing W).drewN nq
          generalize W.drewN nq = wq at hdq ⊢
          have hBq := hBW.e0 hdq
          have hJq := hJW.e0 hdq
          have hNq := hNW.e0 hdq
          have hXq := hXW.e0 hdq
          have hRq := hRW.e0 hdq
          have hxq := hxW.tr hdq
          have k1q : wq.cell? ⟨w.heap.size + 1, 1, none⟩ = some (.int .i64 j1) := hJq.cell 1
          have k4q : wq.cell? ⟨w.heap.size + 1 + 1 + 1, 4, none⟩ = some (.int .i64 x4) := hXq.cell 4
          have n0q : wq.cell? ⟨w.heap.size + 1 + 1, 0, none⟩ = some (.int .i64 n0) := hNq.cell 0
          have g4q : wq.cell? ⟨w.heap.size + 1, 4, none⟩ = some (.slice (some ⟨b, off, none⟩) gn gc) := hdq.c0 g4
          have x3q : wq.cell? ⟨w.heap.size + 1 + 1 + 1, 3, none⟩ = some (.int .i64 x3) := hXq.cell 3
          have r0q : wq.cell? ⟨b, off + x3.toNat * 3, none⟩ = some (.int .i64 q0) := hdq.c0 r0
          go_wp2_with (first | go_skip | go_guarded)
          go_quiet (fail)
          have hdy := (Ext.refl Nothing wq).drewN nq
          generalize wq.drewN nq = wy at hdy ⊢
          have hBy := hBq.e0 hdy
          have hJy := hJq.e0 hdy
          have hNy := hNq.e0 hdy
          have hXy := hXq.e0 hdy
          have hRy := hRq.e0 hdy
          have hxy := hxq.tr hdy
          have HM := Lib.hid (show Fsm.mayP s.data ⟨j0, j1, j2, j3, jg, j5, j6⟩ ⟨n0, ⟨n1, n2⟩, n3, n4, n5, n6, n7⟩ ⟨x0, x1, x2, x3, x4, x5, x6, ⟨x7, x8⟩, x9, x10⟩ = false by rw [HMP.out, HGX.out]; simp only []; rw [if_neg (by rw [p8]; exact Bool.false_ne_true), show decide (0 ≤ x4) = false from by simp at p9 ⊢; omega]; simp)
          go_wp2_with (first | go_skip | go_guarded | ((with_reducible refine isW ?_); refine wpList_load_blk rfl 30 _ rfl STStore w.heap.size rfl s.arr (show Blk _ _ 30 _ from hBy) rfl ?_) | ((with_reducible refine isW ?_); refine wpList_store_blk rfl 30 _ _ rfl STStore (w.heap.size + 1 + 1 + 1 + 1) rfl s.arr rfl (show Blk _ _ 30 _ from hRy) rfl rfl rfl ?_; intro w9 hR9 hx9))
          exact bodyPost_ret (results_cell_tmp rfl STStore (g := (w.heap.size + 1 + 1 + 1 + 1)) rfl hR9 rfl) rfl ⟨s, by rw [HM.out]; rfl, h.keep0 (hxy.trans hx9 (fun b hb e => absurd (show b = (w.heap.size + 1 + 1 + 1 + 1) from e) (by omega))), (placeR_no HM.out).symm, ⟨s.AA, s.nA, s.cA, s.allocs, s.next, rfl, by omega⟩, hxy.trans hx9 (fun b hb e => absurd (show b = (w.heap.size + 1 + 1 + 1 + 1) from e) (by omega))⟩
         | false =>
          cases p10 : decide (q0 ≤ x4) with
          | true =>
           go_quiet (fail)
           have hdq := (Ext.refl Nothing W).drewN nq
           generalize W.drewN nq = wq at hdq ⊢
           have hBq := hBW.e0 hdq
           have hJq := hJW.e0 hdq
           have hNq := hNW.e0 hdq
           have hXq := hXW.e0 hdq
           have hRq := hRW.e0 hdq
           have hxq := hxW.tr hdq
           have k1q : wq.cell? ⟨w.heap.size + 1, 1, none⟩ = some (.int .i64 j1) := hJq.cell 1
           have k4q : wq.cell? ⟨w.heap.size + 1 + 1 + 1, 4, none⟩ = some (.int .i64 x4) := hXq.cell 4
           have n0q : wq.cell? ⟨w.heap.size + 1 + 1, 0, none⟩ = some (.int .i64 n0) := hNq.cell 0
           have g4q : wq.cell? ⟨w.heap.size + 1, 4, none⟩ = some (.slice (some ⟨b, off, none⟩) gn gc) := hdq.c0 g4
           have x3q : wq.cell? ⟨w.heap.size + 1 + 1 + 1, 3, none⟩ = some (.int .i64 x3) := hXq.cell 3
           have r0q : wq.cell? ⟨b, off + x3.toNat * 3, none⟩ = some (.int .i64 q0) := hdq.c0 r0
           go_wp2_with (first | go_skip | go_guarded)
           go_quiet (fail)
           have hdy := (Ext.refl Nothing wq).drewN nq
           generalize wq.drewN nq = wy at hdy ⊢
           have hBy := hBq.e0 hdy
           have hJy := hJq.e0 hdy
           have hNy := hNq.e0 hdy
           have hXy := hXq.e0 hdy
           have hRy := hRq.e0 hdy
           have hxy := hxq.tr hdy
           have HM := Lib.hid (show Fsm.mayP s.data ⟨j0, j1, j2, j3, jg, j5, j6⟩ ⟨n0, ⟨n1, n2⟩, n3, n4, n5, n6, n7⟩ ⟨x0, x1, x2, x3, x4, x5, x6, ⟨x7, x8⟩, x9, x10⟩ = false by rw [HMP.out, HGX.out]; simp only []; rw [if_neg (by rw [p8]; exact Bool.false_ne_true), show decide (x4 < q0) = false from by simp at p10 ⊢; omega]; simp)
           go_wp2_with (first | go_skip | go_guarded | ((with_reducible refine isW ?_); refine wpList_load_blk rfl 30 _ rfl STStore w.heap.size rfl s.arr (show Blk _ _ 30 _ from hBy) rfl ?_) | ((with_reducible refine isW ?_); refine wpList_store_blk rfl 30 _ _ rfl STStore (w.heap.size + 1 + 1 + 1 + 1) rfl s.arr rfl (show Blk _ _ 30 _ from hRy) rfl rfl rfl ?_; intro w9 hR9 hx9))
           exact bodyPost_ret (results_cell_tmp rfl STStore (g := (w.heap.size + 1 + 1 + 1 + 1)) rfl hR9 rfl) rfl ⟨s, by rw [HM.out]; rfl, h.keep0 (hxy.trans hx9 (fun b hb e => absurd (show b = (w.heap.size + 1 + 1 + 1 + 1) from e) (by omega))), (placeR_no HM.out).symm, ⟨s.AA, s.nA, s.cA, s.allocs, s.next, rfl, by omega⟩, hxy.trans hx9 (fun b hb e => absurd (show b = (w.heap.size + 1 + 1 + 1 + 1) from e) (by omega))⟩
          | false =>
           have HT := Lib.hid (show (if (j1 == 3) = true then x4 == n0 else decide (0 ≤ x4) && decide (x4 < q0)) = true by rw [if_neg (by rw [p8]; exact Bool.false_ne_true)]; simp at p9 p10 ⊢; omega)
           go_quiet (fail)
           have hdq := (Ext.refl Nothing W).drewN nq
           generalize W.drewN nq = wq at hdq ⊢
           have hBq := hBW.e0 hdq
           have hJq := hJW.e0 hdq
           have hNq := hNW.e0 hdq
           have hXq := hXW.e0 hdq
           have hRq := hRW.e0 hdq
           have hxq := hxW.tr hdq
           have k1q : wq.cell? ⟨w.heap.size + 1, 1, none⟩ = some (.int .i64 j1) := hJq.cell 1
           have k4q : wq.cell? ⟨w.heap.size + 1 + 1 + 1, 4, none⟩ = some (.int .i64 x4) := hXq.cell 4
           have n0q : wq.cell? ⟨w.heap.size + 1 + 1, 0, none⟩ = some (.int .i64 n0) := hNq.cell 0
           have g4q : wq.cell? ⟨w.heap.size + 1, 4, none⟩ = some (.slice (some ⟨b, off, none⟩) gn gc) := hdq.c0 g4
           have x3q : wq.cell? ⟨w.heap.size + 1 + 1 + 1, 3, none⟩ = some (.int .i64 x3) := hXq.cell 3
           have r0q : wq.cell? ⟨b, off + x3.toNat * 3, none⟩ = some (.int .i64 q0) := hdq.c0 r0
           go_wp2_with (first | go_skip | go_guarded)
           go_quiet (fail)
           have hdy := (Ext.refl Nothing wq).drewN nq
           generalize wq.drewN nq = wy at hdy ⊢
           have hBy := hBq.e0 hdy
           have hJy := hJq.e0 hdy
           have hNy := hNq.e0 hdy
           have hXy := hXq.e0 hdy
           have hRy := hRq.e0 hdy
           have hxy := hxq.tr hdy
           go_upto_region 8 with (first | go_skip | go_guarded)
           have hnA : s.nA ≤ 16777216 := by have := h.al; omega
           have hal := Lib.hid h.al
           have hzV : w.heap.size + 1 + 1 + 1 + 1 < wy.heap.size := hRy.lt
           have hsa := (h.keep0 hxy).slA
           go_wp2
           go_loopw [10] (fun ki wr => ∃ t : Nat, t ≤ s.nA ∧ ki = .int .i64 t ∧ (s.allocs.take t).any (hitB j0 x3 x4 j1 j5) = false ∧ Ext Nothing wy wr) (fun ki _ => s.nA - (intOf ki).toNat)
           case atStart => exact ⟨0, Nat.zero_le _, rfl, rfl, Ext.refl _ _⟩
           case round =>
            obtain ⟨t, ht, rfl, hno, hx⟩ := hrel
            have hB1 := hBy.e0 hx
            have hJ1 := hJy.e0 hx
            have hX1 := hXy.e0 hx
            have hR1 := hRy.e0 hx
            have hN1 := hNy.e0 hx
            have c5 : wr.cell? ⟨w.heap.size, 5, none⟩ = some (.slice s.AA s.nA s.cA) := hB1.cell 5
            by_cases hlt : t < s.nA
            ·obtain ⟨hjn, d, doff, hAe, hce⟩ := hsa.get hx hlt
             have hnx : s.allocs.take (t + 1) = s.allocs.take t ++ [s.allocs[t]] := by rw [List.take_add_one, List.getElem?_eq_getElem hjn]; rfl
             have hmem : s.allocs[t] ∈ s.allocs := List.getElem_mem hjn
             generalize s.allocs[t] = y at hce hnx hmem
             obtain ⟨y0, y1, y2, y3, y4, y5, y6, ⟨y7, y8⟩, y9, y10⟩ := y
             rw [hAe] at c5
             have HA2 := Lib.hid hAe
             have HT2 := Lib.hid hlt
             have hi0 : (0 : Int) ≤ (t : Int) := by omega
             have hi1 : (t : Int) < s.nA := by omega
             have HANY := Lib.hid (show hitB j0 x3 x4 j1 j5 ⟨y0, y1, y2, y3, y4, y5, y6, ⟨y7, y8⟩, y9, y10⟩ = true → s.allocs.any (fun a => a.job == j0 && a.group == x3 && a.index == x4 && (!overB a || (j1 == 2 && a.ver == j5 && a.state == 3))) = true from fun e => List.any_eq_true.2 ⟨_, hmem, e⟩)
             have hnext : hitB j0 x3 x4 j1 j5 ⟨y0, y1, y2, y3, y4, y5, y6, ⟨y7, y8⟩, y9, y10⟩ = false → (s.allocs.take (t + 1)).any (hitB j0 x3 x4 j1 j5) = false := fun e => by rw [hnx, List.any_append, hno]; simp [e]
             clear hAe hnx hmem hno
             have hxQ : Ext Nothing wr (wr.alloc (.cells #[.int .i64 y0, .int .i64 y1, .int .i64 y2, .int .i64 y3, .int .i64 y4, .int .i64 y5, .int .i64 y6, .int .i64 y7, .int .i64 y8, .bool y9, .int .i64 y10] 58)) := Ext.auto
             have hQ : Blk (wr.alloc (.cells #[.int .i64 y0, .int .i64 y1, .int .i64 y2, .int .i64 y3, .int .i64 y4, .int .i64 y5, .int .i64 y6, .int .i64 y7, .int .i64 y8, .bool y9, .int .i64 y10] 58)) wr.heap.size 58 #[.int .i64 y0, .int .i64 y1, .int .i64 y2, .int .i64 y3, .int .i64 y4, .int .i64 y5, .int .i64 y6, .int .i64 y7, .int .i64 y8, .bool y9, .int .i64 y10] := Blk.new _ _ _
             have hB2 := hB1.e0 hxQ
             have hJ2 := hJ1.e0 hxQ
             have hX2 := hX1.e0 hxQ
             have hR2 := hR1.e0 hxQ
             have hx2 := (hxy.tr hx).tr hxQ
             go_upto_region 12 with (first | go_skip | ((with_reducible refine isW ?_); refine wpList_load_at rfl 58 _ rfl STAlloc d (doff + t * 11) rfl #[.int .i64 y0, .int .i64 y1, .int .i64 y2, .int .i64 y3, .int .i64 y4, .int .i64 y5, .int .i64 y6, .int .i64 y7, .int .i64 y8, .bool y9, .int .i64 y10] hce rfl ?_))
             have z1 : (wr.alloc (.cells #[.int .i64 y0, .int .i64 y1, .int .i64 y2, .int .i64 y3, .int .i64 y4, .int .i64 y5, .int .i64 y6, .int .i64 y7, .int .i64 y8, .bool y9, .int .i64 y10] 58)).cell? ⟨wr.heap.size, 1, none⟩ = some (.int .i64 y1) := hQ.cell 1
             have z2 : (wr.alloc (.cells #[.int .i64 y0, .int .i64 y1, .int .i64 y2, .int .i64 y3, .int .i64 y4, .int .i64 y5, .int .i64 y6, .int .i64 y7, .int .i64 y8, .bool y9, .int .i64 y10] 58)).cell? ⟨wr.heap.size, 2, none⟩ = some (.int .i64 y2) := hQ.cell 2
             have z3 : (wr.alloc (.cells #[.int .i64 y0, .int .i64 y1, .int .i64 y2, .int .i64 y3, .int .i64 y4, .int .i64 y5, .int .i64 y6, .int .i64 y7, .int .i64 y8, .bool y9, .int .i64 y10] 58)).cell? ⟨wr.heap.size, 3, none⟩ = some (.int .i64 y3) := hQ.cell 3
             have z4 : (wr.alloc (.cells #[.int .i64 y0, .int .i64 y1, .int .i64 y2, .int .i64 y3, .int .i64 y4, .int .i64 y5, .int .i64 y6, .int .i64 y7, .int .i64 y8, .bool y9, .int .i64 y10] 58)).cell? ⟨wr.heap.size, 4, none⟩ = some (.int .i64 y4) := hQ.cell 4
             have z10 : (wr.alloc (.cells #[.int .i64 y0, .int .i64 y1, .int .i64 y2, .int .i64 y3, .int .i64 y4, .int .i64 y5, .int .i64 y6, .int .i64 y7, .int .i64 y8, .bool y9, .int .i64 y10] 58)).cell? ⟨wr.heap.size, 10, none⟩ = some (.int .i64 y10) := hQ.cell 10
             have jj0 : (wr.alloc (.cells #[.int .i64 y0, .int .i64 y1, .int .i64 y2, .int .i64 y3, .int .i64 y4, .int .i64 y5, .int .i64 y6, .int .i64 y7, .int .i64 y8, .bool y9, .int .i64 y10] 58)).cell? ⟨w.heap.size + 1, 0, none⟩ = some (.int .i64 j0) := hJ2.cell 0
             have jj1 : (wr.alloc (.cells #[.int .i64 y0, .int .i64 y1, .int .i64 y2, .int .i64 y3, .int .i64 y4, .int .i64 y5, .int .i64 y6, .int .i64 y7, .int .i64 y8, .bool y9, .int .i64 y10] 58)).cell? ⟨w.heap.size + 1, 1, none⟩ = some (.int .i64 j1) := hJ2.cell 1
             have jj5 : (wr.alloc (.cells #[.int .i64 y0, .int .i64 y1, .int .i64 y2, .int .i64 y3, .int .i64 y4, .int .i64 y5, .int .i64 y6, .int .i64 y7, .int .i64 y8, .bool y9, .int .i64 y10] 58)).cell? ⟨w.heap.size + 1, 5, none⟩ = some (.int .i64 j5) := hJ2.cell 5
             have xx3 : (wr.alloc (.cells #[.int .i64 y0, .int .i64 y1, .int .i64 y2, .int .i64 y3, .int .i64 y4, .int .i64 y5, .int .i64 y6, .int .i64 y7, .int .i64 y8, .bool y9, .int .i64 y10] 58)).cell? ⟨w.heap.size + 1 + 1 + 1, 3, none⟩ = some (.int .i64 x3) := hX2.cell 3
             have xx4 : (wr.alloc (.cells #[.int .i64 y0, .int .i64 y1, .int .i64 y2, .int .i64 y3, .int .i64 y4, .int .i64 y5, .int .i64 y6, .int .i64 y7, .int .i64 y8, .bool y9, .int .i64 y10] 58)).cell? ⟨w.heap.size + 1 + 1 + 1, 4, none⟩ = some (.int .i64 x4) := hX2.cell 4
             cases u1 : (y1 != j0) with
             | true =>
              have HNH := Lib.hid (hnext (by unfold hitB overB; rw [show (y1 == j0) = false from by simpa using u1]; simp))
              go_wp2_with (first | go_skip | go_guarded)
              go_roundw
              case rel => exact ⟨t + 1, HT2.out, by go_num, HNH.out, hx.tr hxQ⟩
              case measure => have := HT2.out; simp [intOf]; omega
             | false =>
              cases u2 : (y3 != x3) with
              | true =>
               have HNH := Lib.hid (hnext (by unfold hitB overB; rw [show (y3 == x3) = false from by simpa using u2]; simp))
               go_wp2_with (first | go_skip | go_guarded)
               go_roundw
               case rel => exact ⟨t + 1, HT2.out, by go_num, HNH.out, hx.tr hxQ⟩
               case measure => have := HT2.out; simp [intOf]; omega
              | false =>
               cases u3 : (y4 != x4) with
               | true =>
                have HNH := Lib.hid (hnext (by unfold hitB overB; rw [show (y4 == x4) = false from by simpa using u3]; simp))
                go_wp2_with (first | go_skip | go_guarded)
                go_roundw
                case rel => exact ⟨t + 1, HT2.out, by go_num, HNH.out, hx.tr hxQ⟩
                case measure => have := HT2.out; simp [intOf]; omega
               | false =>
                cases u4 : decide (y10 < 3) with
                | true =>
                 have HH := Lib.hid (show hitB j0 x3 x4 j1 j5 ⟨y0, y1, y2, y3, y4, y5, y6, ⟨y7, y8⟩, y9, y10⟩ = true by unfold hitB overB; rw [show (y1 == j0) = true from by simpa using u1, show (y3 == x3) = true from by simpa using u2, show (y4 == x4) = true from by simpa using u3]; rw [show decide (3 ≤ y10) = false from by simp at u4 ⊢; omega]; rfl)
                 have HM := Lib.hid (show Fsm.mayP s.data ⟨j0, j1, j2, j3, jg, j5, j6⟩ ⟨n0, ⟨n1, n2⟩, n3, n4, n5, n6, n7⟩ ⟨x0, x1, x2, x3, x4, x5, x6, ⟨x7, x8⟩, x9, x10⟩ = false by rw [HMP.out, HANY.out HH.out]; simp)
                 go_wp2_with (first | go_skip | go_guarded | ((with_reducible refine isW ?_); refine wpList_load_blk rfl 30 _ rfl STStore w.heap.size rfl s.arr (show Blk _ _ 30 _ from hB2) rfl ?_) | ((with_reducible refine isW ?_); refine wpList_store_blk rfl 30 _ _ rfl STStore (w.heap.size + 1 + 1 + 1 + 1) rfl s.arr rfl (show Blk _ _ 30 _ from hR2) rfl rfl rfl ?_; intro w9 hR9 hx9))
                 exact bodyPost_ret (results_cell_tmp rfl STStore (g := (w.heap.size + 1 + 1 + 1 + 1)) rfl hR9 rfl) rfl ⟨s, by rw [HM.out]; rfl, h.keep0 (hx2.trans hx9 (fun b hb e => absurd (show b = (w.heap.size + 1 + 1 + 1 + 1) from e) (by omega))), (placeR_no HM.out).symm, ⟨s.AA, s.nA, s.cA, s.allocs, s.next, rfl, by omega⟩, hx2.trans hx9 (fun b hb e => absurd (show b = (w.heap.size + 1 + 1 + 1 + 1) from e) (by omega))⟩
                | false =>
                 have ov : decide (3 ≤ y10) = true := by simp at u4 ⊢; omega
                 cases u5 : (j1 == 2) with
                 | false =>
                  have HNH := Lib.hid (hnext (by unfold hitB overB; rw [show (y1 == j0) = true from by simpa using u1, show (y3 == x3) = true from by simpa using u2, show (y4 == x4) = true from by simpa using u3]; rw [ov]; simp [u5]))
                  go_wp2_with (first | go_skip | go_guarded)
                  go_roundw
                  case rel => exact ⟨t + 1, HT2.out, by go_num, HNH.out, hx.tr hxQ⟩
                  case measure => have := HT2.out; simp [intOf]; omega
                 | true =>
                  cases u6 : (y2 == j5) with
                  | false =>
                   have HNH := Lib.hid (hnext (by unfold hitB overB; rw [show (y1 == j0) = true from by simpa using u1, show (y3 == x3) = true from by simpa using u2, show (y4 == x4) = true from by simpa using u3]; rw [ov]; simp [u5, u6]))
                   go_wp2_with (first | go_skip | go_guarded)
                   go_roundw
                   case rel => exact ⟨t + 1, HT2.out, by go_num, HNH.out, hx.tr hxQ⟩
                   case measure => have := HT2.out; simp [intOf]; omega
                  | true =>
                   cases u7 : (y10 == 3) with
                   | false =>
                    have HNH := Lib.hid (hnext (by unfold hitB overB; rw [show (y1 == j0) = true from by simpa using u1, show (y3 == x3) = true from by simpa using u2, show (y4 == x4) = true from by simpa using u3]; rw [ov]; simp [u5, u6, u7]))
                    go_wp2_with (first | go_skip | go_guarded)
                    go_roundw
                    case rel => exact ⟨t + 1, HT2.out, by go_num, HNH.out, hx.tr hxQ⟩
                    case measure => have := HT2.out; simp [intOf]; omega
                   | true =>
                    have HH := Lib.hid (show hitB j0 x3 x4 j1 j5 ⟨y0, y1, y2, y3, y4, y5, y6, ⟨y7, y8⟩, y9, y10⟩ = true by unfold hitB overB; rw [show (y1 == j0) = true from by simpa using u1, show (y3 == x3) = true from by simpa using u2, show (y4 == x4) = true from by simpa using u3]; rw [ov, u5, u6, u7]; rfl)
                    have HM := Lib.hid (show Fsm.mayP s.data ⟨j0, j1, j2, j3, jg, j5, j6⟩ ⟨n0, ⟨n1, n2⟩, n3, n4, n5, n6, n7⟩ ⟨x0, x1, x2, x3, x4, x5, x6, ⟨x7, x8⟩, x9, x10⟩ = false by rw [HMP.out, HANY.out HH.out]; simp)
                    go_wp2_with (first | go_skip | go_guarded | ((with_reducible refine isW ?_); refine wpList_load_blk rfl 30 _ rfl STStore w.heap.size rfl s.arr (show Blk _ _ 30 _ from hB2) rfl ?_) | ((with_reducible refine isW ?_); refine wpList_store_blk rfl 30 _ _ rfl STStore (w.heap.size + 1 + 1 + 1 + 1) rfl s.arr rfl (show Blk _ _ 30 _ from hR2) rfl rfl rfl ?_; intro w9 hR9 hx9))
                    exact bodyPost_ret (results_cell_tmp rfl STStore (g := (w.heap.size + 1 + 1 + 1 + 1)) rfl hR9 rfl) rfl ⟨s, by rw [HM.out]; rfl, h.keep0 (hx2.trans hx9 (fun b hb e => absurd (show b = (w.heap.size + 1 + 1 + 1 + 1) from e) (by omega))), (placeR_no HM.out).symm, ⟨s.AA, s.nA, s.cA, s.allocs, s.next, rfl, by omega⟩, hx2.trans hx9 (fun b hb e => absurd (show b = (w.heap.size + 1 + 1 + 1 + 1) from e) (by omega))⟩
            ·have hnl : ¬ ((t : Int) < s.nA) := by omega
             have HNO := Lib.hid (show s.allocs.any (fun a => a.job == j0 && a.group == x3 && a.index == x4 && (!overB a || (j1 == 2 && a.ver == j5 && a.state == 3))) = false by rw [List.take_of_length_le (by have := hal.out; omega)] at hno; exact hno)
             clear hno
             generalize hU : usedS s.allocs n0 = U at HMP
             generalize hbf : fitsF U ⟨x7, x8⟩ ⟨n1, n2⟩ = bf at HMP
             have HU := Lib.hid hU
             have HBF := Lib.hid hbf
             clear hU hbf
             have hs1 := hsa.ext0 hx
             have hxr : Ext Nothing w wr := hxy.tr hx
             go_upto_region 15 with (first | go_skip | go_guarded)
             refine calm_region (by kernel_rfl) (by kernel_rfl) ?_
             refine calm_val (v := .agg s.arr) (by kernel_rfl) ?_ ?_
             ·intro W hW
              exact run_load_blk rfl STStore (by go_simp) (hB1.e0 hW) rfl
             simp only [Act.put, zA, zB, zC, zD, zE, zF]
             refine calm_val (v := .pointer (some ⟨w.heap.size + 1 + 1, 0, none⟩)) (by kernel_rfl) ?_ ?_
             ·intro W hW
              go_simp
             simp only [Act.put, zA, zB, zC, zD, zE, zF]
             refine calm_val (v := .int .i64 n0) (by kernel_rfl) ?_ ?_
             ·intro W hW
              have q5 : W.cell? ⟨w.heap.size + 1 + 1, 0, none⟩ = some (.int .i64 n0) := (hN1.e0 hW).cell 0
              go_simp
             simp only [Act.put, zA, zB, zC, zD, zE, zF]
             refine calm_call (v := .agg #[.int .i64 U.cpu, .int .i64 U.mem]) (f := 14) (args := #[.agg s.arr, .int .i64 n0]) (by kernel_rfl) (fun W hW => by go_simp) (fun W hW => (refUsed s.AA s.nA s.cA s.allocs n0 W (hs1.ext0 hW) (by omega) _ _ _ _ _ _ _ _).mono fun e w' ⟨he, hxu⟩ => ⟨by rw [he, HU.out], hW.tr hxu⟩) ?_
             simp only [Act.put, zA, zB, zC, zD, zE, zF]
             refine calm_val (v := .pointer (some ⟨w.heap.size + 1 + 1 + 1, 7, none⟩)) (by kernel_rfl) ?_ ?_
             ·intro W hW
              go_simp
             simp only [Act.put, zA, zB, zC, zD, zE, zF]
             refine calm_val (v := .agg #[.int .i64 x7, .int .i64 x8]) (by kernel_rfl) ?_ ?_
             ·intro W hW
              exact run_load_struct (sz := 2) (b := w.heap.size + 1 + 1 + 1) (off := 7) rfl STRes2 (by go_simp) (fun j u hu => by rw [(hX1.e0 hW).cell]; match j, hu with | 0, hu => exact hu | 1, hu => exact hu | (k + 2), hu => simp at hu) rfl
             simp only [Act.put, zA, zB, zC, zD, zE, zF]
             refine calm_val (v := .pointer (some ⟨w.heap.size + 1 + 1, 1, none⟩)) (by kernel_rfl) ?_ ?_
             ·intro W hW
              go_simp
             simp only [Act.put, zA, zB, zC, zD, zE, zF]
             refine calm_val (v := .agg #[.int .i64 n1, .int .i64 n2]) (by kernel_rfl) ?_ ?_
             ·intro W hW
              exact run_load_struct (sz := 2) (b := w.heap.size + 1 + 1) (off := 1) rfl STRes2 (by go_simp) (fun j u hu => by rw [(hN1.e0 hW).cell]; match j, hu with | 0, hu => exact hu | 1, hu => exact hu | (k + 2), hu => simp at hu) rfl
             simp only [Act.put, zA, zB, zC, zD, zE, zF]
             refine calm_call (v := .bool bf) (f := 96) (args := #[.agg #[.int .i64 U.cpu, .int .i64 U.mem], .agg #[.int .i64 x7, .int .i64 x8], .agg #[.int .i64 n1, .int .i64 n2]]) (by kernel_rfl) (fun W hW => by go_simp) (fun W hW => (ref06Fits U ⟨x7, x8⟩ ⟨n1, n2⟩ W).mono fun e w' ⟨he, hxu⟩ => ⟨by rw [he, HBF.out], hW.tr hxu⟩) ?_
             simp only [Act.put, zA, zB, zC, zD, zE, zF]
             refine calm_val (v := .bool bf) (by kernel_rfl) ?_ ?_
             ·intro W hW
              go_simp
             simp only [Act.put, zA, zB, zC, zD, zE, zF]
             refine calm_nil (fun Wf hWf => ?_)
             have hBf := hB1.e0 hWf
             have hRf := hR1.e0 hWf
             have hxf : Ext Nothing w Wf := hxr.tr hWf
             cases bf with
             | false =>
              have HM := Lib.hid (show Fsm.mayP s.data ⟨j0, j1, j2, j3, jg, j5, j6⟩ ⟨n0, ⟨n1, n2⟩, n3, n4, n5, n6, n7⟩ ⟨x0, x1, x2, x3, x4, x5, x6, ⟨x7, x8⟩, x9, x10⟩ = false by rw [HMP.out]; simp)
              go_wp2_with (first | go_skip | go_guarded | ((with_reducible refine isW ?_); refine wpList_load_blk rfl 30 _ rfl STStore w.heap.size rfl s.arr (show Blk _ _ 30 _ from hBf) rfl ?_) | ((with_reducible refine isW ?_); refine wpList_store_blk rfl 30 _ _ rfl STStore (w.heap.size + 1 + 1 + 1 + 1) rfl s.arr rfl (show Blk _ _ 30 _ from hRf) rfl rfl rfl ?_; intro w9 hR9 hx9))
              exact bodyPost_ret (results_cell_tmp rfl STStore (g := (w.heap.size + 1 + 1 + 1 + 1)) rfl hR9 rfl) rfl ⟨s, by rw [HM.out]; rfl, h.keep0 (hxf.trans hx9 (fun b hb e => absurd (show b = (w.heap.size + 1 + 1 + 1 + 1) from e) (by omega))), (placeR_no HM.out).symm, ⟨s.AA, s.nA, s.cA, s.allocs, s.next, rfl, by omega⟩, hxf.trans hx9 (fun b hb e => absurd (show b = (w.heap.size + 1 + 1 + 1 + 1) from e) (by omega))⟩
             | true =>
              have HM := Lib.hid (show Fsm.mayP s.data ⟨j0, j1, j2, j3, jg, j5, j6⟩ ⟨n0, ⟨n1, n2⟩, n3, n4, n5, n6, n7⟩ ⟨x0, x1, x2, x3, x4, x5, x6, ⟨x7, x8⟩, x9, x10⟩ = true by rw [HMP.out, HGX.out, show (x1 == j0) = true from by simpa using p1, show (x2 == j5) = true from by simpa using p2, show (x6 == n6) = true from by simpa using p3, show decide (0 ≤ x3) = true from by simpa using p4]; simp only []; rw [HASK.out, HT.out, HNO.out]; rfl)
              have hsf := hs1.ext0 hWf
              have hJf := hJ1.e0 hWf
              have hNf := hN1.e0 hWf
              have hXf := hX1.e0 hWf
              have f5 : Wf.cell? ⟨w.heap.size, 5, none⟩ = some (.slice s.AA s.nA s.cA) := hBf.cell 5
              go_upto_region 19 with (first | go_skip | go_guarded)
              go_upto_region 20 with (first | go_skip | (at_builtin; refine wpList_appS rfl _ _ 25 rfl Wf.heap.size SRAlloc (.slice none 0 0) 0 [] rfl (World.ownsRow_nil ..) s.AA s.nA s.cA (s.allocs.map AllocD.cells) rfl hsf (cellsOne (fun _ => rfl) _) (by omega) (Nat.le_refl _) ?_; intro A1 c1 wa oa ga; simp only [Nat.zero_add]))
              have hxa : Ext Nothing Wf wa := Ext.of_grown (S := Nothing) ga (fun b e => by simp [Value.ownBlock] at e)
              have o1 : wa.ownsRow Wf.heap.size 58 11 (.slice A1 s.nA c1) s.nA (s.allocs.flatMap AllocD.cells) := by have o := oa; rw [Nat.zero_add, List.nil_append, ← List.flatMap_def] at o; exact o
              have hBa := hBf.e0 hxa
              have hJa := hJf.e0 hxa
              have hNa := hNf.e0 hxa
              have hXa := hXf.e0 hxa
              have hRa := hRf.e0 hxa
              have a1 : wa.cell? ⟨w.heap.size, 1, none⟩ = some (.int .i64 s.next) := hBa.cell 1
              have a2 : wa.cell? ⟨w.heap.size + 1, 0, none⟩ = some (.int .i64 j0) := hJa.cell 0
              have a3 : wa.cell? ⟨w.heap.size + 1, 5, none⟩ = some (.int .i64 j5) := hJa.cell 5
              have a4 : wa.cell? ⟨w.heap.size + 1 + 1 + 1, 3, none⟩ = some (.int .i64 x3) := hXa.cell 3
              have a5 : wa.cell? ⟨w.heap.size + 1 + 1 + 1, 4, none⟩ = some (.int .i64 x4) := hXa.cell 4
              have a6 : wa.cell? ⟨w.heap.size + 1 + 1, 0, none⟩ = some (.int .i64 n0) := hNa.cell 0
              have a7 : wa.cell? ⟨w.heap.size + 1 + 1, 6, none⟩ = some (.int .i64 n6) := hNa.cell 6
              have hX7 : ∀ j u, (#[Value.int .i64 x7, .int .i64 x8] : Array Value).toList[j]? = some u → wa.cell? ⟨w.heap.size + 1 + 1 + 1, 7 + j, none⟩ = some u := fun j u hu => by rw [hXa.cell]; match j, hu with | 0, hu => exact hu | 1, hu => exact hu | (k + 2), hu => simp at hu
              have hbn : s.nA < 67108864 := by omega
              have hza := hxa.size
              go_upto_region 21 with (first | go_skip | ((with_reducible refine isW ?_); refine wpList_load_at rfl 41 _ rfl STRes2 (w.heap.size + 1 + 1 + 1) 7 rfl #[.int .i64 x7, .int .i64 x8] hX7 rfl ?_) | ((with_reducible refine isW2 ?_); refine wpList_push rfl rfl 25 _ rfl _ _ rfl SRAlloc #[.int .i64 s.next, .int .i64 j0, .int .i64 j5, .int .i64 x3, .int .i64 x4, .int .i64 n0, .int .i64 n6, .int .i64 x7, .int .i64 x8, .bool false, .int .i64 1] rfl rfl Wf.heap.size (.slice A1 s.nA c1) s.nA (s.allocs.flatMap AllocD.cells) rfl rfl o1 rfl hbn hza ?_; intro A2 c2 wb ob hxb))
              have hxab : Ext Nothing Wf wb := hxa.trans hxb (fun q hq e => absurd (own_ge o1 e) (by omega))
              have hBb := hBf.e0 hxab
              have hRb := hRf.e0 hxab
              have b5 : wb.cell? ⟨w.heap.size, 5, none⟩ = some (.slice s.AA s.nA s.cA) := hBb.cell 5
              have b5f : wb.frozen? ⟨w.heap.size, 5, none⟩ = false := hBb.frozen 5
              have hBc := hBb.set_ 5 (.slice A2 (s.nA + 1) c2)
              have d1 : (wb.setCell ⟨w.heap.size, 5, none⟩ (.slice A2 (s.nA + 1) c2)).cell? ⟨w.heap.size, 1, none⟩ = some (.int .i64 s.next) := hBc.cell 1
              have d1f : (wb.setCell ⟨w.heap.size, 5, none⟩ (.slice A2 (s.nA + 1) c2)).frozen? ⟨w.heap.size, 1, none⟩ = false := hBc.frozen 1
              have hBd := hBc.set_ 1 (.int .i64 (wrap64 (s.next + 1)))
              have hs1x : Ext (fun b => b = w.heap.size) wb (wb.setCell ⟨w.heap.size, 5, none⟩ (.slice A2 (s.nA + 1) c2)) := Ext.set1 _ _ _ _
              have hs2x : Ext (fun b => b = w.heap.size) (wb.setCell ⟨w.heap.size, 5, none⟩ (.slice A2 (s.nA + 1) c2)) ((wb.setCell ⟨w.heap.size, 5, none⟩ (.slice A2 (s.nA + 1) c2)).setCell ⟨w.heap.size, 1, none⟩ (.int .i64 (wrap64 (s.next + 1)))) := Ext.set1 _ _ _ _
              have hRd := (hRb.ext hs1x (fun e => absurd (show (w.heap.size + 1 + 1 + 1 + 1) = w.heap.size from e) (by omega))).ext hs2x (fun e => absurd (show (w.heap.size + 1 + 1 + 1 + 1) = w.heap.size from e) (by omega))
              go_wp2_with (first | go_skip | go_guarded | ((with_reducible refine isW ?_); refine wpList_load_blk rfl 30 _ rfl STStore w.heap.size rfl ({ s with AA := A2, nA := s.nA + 1, cA := c2, allocs := s.allocs ++ [(⟨s.next, j0, j5, x3, x4, n0, n6, ⟨x7, x8⟩, false, 1⟩ : AllocD)], next := wrap64 (s.next + 1) } : StoreV).arr (show Blk _ _ 30 _ from hBd) rfl ?_) | ((with_reducible refine isW ?_); refine wpList_store_blk rfl 30 _ _ rfl STStore (w.heap.size + 1 + 1 + 1 + 1) rfl ({ s with AA := A2, nA := s.nA + 1, cA := c2, allocs := s.allocs ++ [(⟨s.next, j0, j5, x3, x4, n0, n6, ⟨x7, x8⟩, false, 1⟩ : AllocD)], next := wrap64 (s.next + 1) } : StoreV).arr rfl (show Blk _ _ 30 _ from hRd) rfl rfl rfl ?_; intro w9 hR9 hx9))
              have ob2 := own_snoc (x := (⟨s.next, j0, j5, x3, x4, n0, n6, ⟨x7, x8⟩, false, 1⟩ : AllocD)) ob rfl hal.out.symm
              have hw3 : Ext Nothing w w9 := ((((hxf.tr hxab).trans hs1x (fun b hb e => absurd (show b = w.heap.size from e) (by omega))).trans hs2x (fun b hb e => absurd (show b = w.heap.size from e) (by omega)))).trans hx9 (fun b hb e => absurd (show b = (w.heap.size + 1 + 1 + 1 + 1) from e) (by omega))
              have hzf := hxf.size
              have hzf2 := hBf.lt
              have hzf3 := hRf.lt
              have ob3 := own_base (own_ext (own_ext (own_ext ob2 hs1x (fun g hg e => by have := own_ge ob2 hg; omega)) hs2x (fun g hg e => by have := own_ge ob2 hg; omega)) hx9 (fun g hg e => by have := own_ge ob2 hg; have := hBf.lt; have := hRf.lt; omega)) (show base ≤ Wf.heap.size by omega)
              have he : ({ s with AA := A2, nA := s.nA + 1, cA := c2, allocs := s.allocs ++ [(⟨s.next, j0, j5, x3, x4, n0, n6, ⟨x7, x8⟩, false, 1⟩ : AllocD)], next := wrap64 (s.next + 1) } : StoreV) = { (s.setA A2 c2 (s.allocs ++ [(⟨s.next, j0, j5, x3, x4, n0, n6, ⟨x7, x8⟩, false, 1⟩ : AllocD)])) with next := wrap64 (s.next + 1) } := by have := hal.out; simp [StoreV.setA, this]
              exact bodyPost_ret (results_cell_tmp rfl STStore (g := (w.heap.size + 1 + 1 + 1 + 1)) rfl hR9 rfl) rfl ⟨{ (s.setA A2 c2 (s.allocs ++ [(⟨s.next, j0, j5, x3, x4, n0, n6, ⟨x7, x8⟩, false, 1⟩ : AllocD)])) with next := wrap64 (s.next + 1) }, by rw [HM.out, ← he]; rfl, (h.wA hw3 Apart.none ob3).next _, by rw [placeR_yes HM.out]; rfl, ⟨A2, _, c2, s.allocs ++ [(⟨s.next, j0, j5, x3, x4, n0, n6, ⟨x7, x8⟩, false, 1⟩ : AllocD)], _, rfl, by rw [List.length_append]; exact Nat.le_refl _⟩, hw3⟩
end Go.Proofs.YtlpfcmnnmdhaoaaGreat
