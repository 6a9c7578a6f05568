/- Parts of the proof: RefCmd -/
import Derived.Test.YtlpfcmnnmdhaoaaGreatQ18
import Derived.Test.YtlpfcmnnmdhaoaaGreatQ17
import Derived.Test.YtlpfcmnnmdhaoaaGreatQ24
import Derived.Test.YtlpfcmnnmdhaoaaGreatQ25
import Derived.Test.YtlpfcmnnmdhaoaaGreatQ19
import Derived.Test.YtlpfcmnnmdhaoaaGreatQ22
import Derived.Test.YtlpfcmnnmdhaoaaGreatQ26
import Derived.Test.YtlpfcmnnmdhaoaaGreatQ21
namespace Go.Proofs.YtlpfcmnnmdhaoaaGreat
set_option linter.unusedVariables false
set_option linter.unusedSimpArgs false
set_option linter.unusedSectionVars false
open Go.RowKit
set_option maxRecDepth 20000 in
set_option maxHeartbeats 16000000 in
theorem refCommand (base : Nat) (s : StoreV) (c : CmdV) (w : World) (h : OwnS base w s) (hc : CmdI base w c) (hb : base ≤ w.heap.size) (hJ : s.jobs.length ≤ 1048575) (hN : s.nodes.length ≤ 1048575) (hA : s.allocs.length ≤ 1048576) (hDl : s.deploys.length ≤ 1048575) (hS : s.stable.length ≤ 33554432) (hE : s.evals.length ≤ 16777216) :
  Calls Tryz.prog 15 #[.agg s.arr, .agg c.arr] w fun e w' => ∃ s' r rv, e = .returned (.tuple #[.agg s'.arr, .agg #[.int .i64 r.code, .int .i64 r.value, rv]]) ∧ OwnS base w' s' ∧ Fsm.command s.data c.d = (s'.data, r) ∧ ResI base w' rv r.allocs ∧ Ext (RowB base w) w w' := by
 obtain ⟨hxW, hBW, hCW, hRW, hEW⟩ := enterW w s.arr c.arr #[.int .i64 0, .int .i64 0, .slice none 0 0, .slice none 0 0, .slice none 0 0, .slice none 0 0, .slice none 0 0, .slice none 0 0, .slice none 0 0] #[.int .i64 0, .int .i64 0, .slice none 0 0]
 go_enter Tryz.func15, Tryz.ntmps15
 go_upto_region 1 with fail
 generalize ((((w.alloc (.cells s.arr 30)).alloc (.cells c.arr 51)).alloc (.cells #[.int .i64 0, .int .i64 0, .slice none 0 0, .slice none 0 0, .slice none 0 0, .slice none 0 0, .slice none 0 0, .slice none 0 0, .slice none 0 0] 30)).alloc (.cells #[.int .i64 0, .int .i64 0, .slice none 0 0] 34)) = W at hxW hBW hCW hRW hEW ⊢
 have hzW : w.heap.size + 1 + 1 + 1 < W.heap.size := hEW.lt
 have hO := h.keep0 hxW
 have hcW := hc.keep0 hxW
 have hbW : base ≤ W.heap.size := by have := hxW.size; omega
 have hxR : Ext (RowB base w) w W := hxW.mono (fun _ _ e => e.elim)
 have hJ1 : s.jobs.length ≤ 1048576 := by omega
 have hN1 : s.nodes.length ≤ 1048576 := by omega
 have hDl1 : s.deploys.length ≤ 1048576 := by omega
 have hE1 : s.evals.length ≤ 33554432 := by omega
 have c0 : W.cell? ⟨w.heap.size + 1, 0, none⟩ = some (.int .i64 c.op) := hCW.cell 0
 go_upto_region 2 with (first | go_skip)
 clear c0
 cases o1 : (c.op == 1) with
 | true =>
  have HC := Lib.hid (show Fsm.command s.data c.d = (s.data, ⟨0, 0, []⟩) by have hop : c.d.op = 1 := (show c.op = 1 by simpa using o1); unfold Fsm.command; simp [hop])
  go_wp2_with (first | go_skip | go_guarded | ((with_reducible refine isW ?_); refine wpList_load_blk rfl 30 _ rfl STStore w.heap.size rfl s.arr (show Blk _ _ 30 _ from hBW) rfl ?_) | ((with_reducible refine isW ?_); refine wpList_store_blk rfl 30 _ _ rfl STStore (w.heap.size + 1 + 1) rfl s.arr rfl (show Blk _ _ 30 _ from hRW) rfl rfl rfl ?_; intro w2 hR2 hx2) | ((with_reducible refine isW ?_); refine wpList_store_blk rfl 34 _ _ rfl STResult (w.heap.size + 1 + 1 + 1) rfl (resArr 0 0) rfl (show Blk _ _ 34 _ from hEW.ext hx2 (fun e => absurd (show (w.heap.size + 1 + 1 + 1) = (w.heap.size + 1 + 1) from e) (by omega))) rfl rfl rfl ?_; intro w3 hE3 hx3))
  have hR3 := hR2.ext hx3 (fun e => absurd (show (w.heap.size + 1 + 1) = (w.heap.size + 1 + 1 + 1) from e) (by omega))
  have hxx : Ext Nothing w w3 := (hxW.trans hx2 (fun b hb e => by omega)).trans hx3 (fun b hb e => by omega)
  exact bodyPost_ret (results_cell2 rfl STStore STResult rfl rfl hR3 rfl hE3 rfl) rfl ⟨s, ⟨0, 0, []⟩, .slice none 0 0, rfl, h.keep0 hxx, HC.out, ResI.nil _ _, hxx.mono (fun _ _ e => e.elim)⟩
 | false =>
  cases o2 : (c.op == 2) with
  | true =>
   have HC := Lib.hid (show Fsm.command s.data c.d = (s.data, ⟨0, 0, []⟩) by have hop : c.d.op = 2 := (show c.op = 2 by simpa using o2); unfold Fsm.command; simp [hop])
   go_wp2_with (first | go_skip | go_guarded | ((with_reducible refine isW ?_); refine wpList_load_blk rfl 30 _ rfl STStore w.heap.size rfl s.arr (show Blk _ _ 30 _ from hBW) rfl ?_) | ((with_reducible refine isW ?_); refine wpList_store_blk rfl 30 _ _ rfl STStore (w.heap.size + 1 + 1) rfl s.arr rfl (show Blk _ _ 30 _ from hRW) rfl rfl rfl ?_; intro w2 hR2 hx2) | ((with_reducible refine isW ?_); refine wpList_store_blk rfl 34 _ _ rfl STResult (w.heap.size + 1 + 1 + 1) rfl (resArr 0 0) rfl (show Blk _ _ 34 _ from hEW.ext hx2 (fun e => absurd (show (w.heap.size + 1 + 1 + 1) = (w.heap.size + 1 + 1) from e) (by omega))) rfl rfl rfl ?_; intro w3 hE3 hx3))
   have hR3 := hR2.ext hx3 (fun e => absurd (show (w.heap.size + 1 + 1) = (w.heap.size + 1 + 1 + 1) from e) (by omega))
   have hxx : Ext Nothing w w3 := (hxW.trans hx2 (fun b hb e => by omega)).trans hx3 (fun b hb e => by omega)
   exact bodyPost_ret (results_cell2 rfl STStore STResult rfl rfl hR3 rfl hE3 rfl) rfl ⟨s, ⟨0, 0, []⟩, .slice none 0 0, rfl, h.keep0 hxx, HC.out, ResI.nil _ _, hxx.mono (fun _ _ e => e.elim)⟩
  | false =>
   cases o3 : (c.op == 3) with
   | true =>
    have HC := Lib.hid (show Fsm.command s.data c.d = Fsm.submit s.data c.d by have hop : c.d.op = 3 := (show c.op = 3 by simpa using o3); unfold Fsm.command; simp [hop])
    go_wp2_with (first | go_skip | go_guarded | ((with_reducible refine isW ?_); refine wpList_load_blk rfl 30 _ rfl STStore w.heap.size rfl s.arr (show Blk _ _ 30 _ from hBW) rfl ?_) | ((with_reducible refine isW ?_); refine wpList_load_blk rfl 51 _ rfl STCmd (w.heap.size + 1) rfl c.arr (show Blk _ _ 51 _ from hCW) rfl ?_) | (go_at_call 28; (with_reducible refine (refSubmit base s c W hO hcW hbW hJ hA hDl hS hE1).mono ?_); rintro e w1 ⟨s1, r1, rfl, hO1, hF1, hra, hx1⟩; have HF1 := Lib.hid hF1; have HRA := Lib.hid hra; clear hF1 hra; have hR1 := hRW.kept hx1 (by decide); have hE1b := hEW.kept hx1 (by decide)) | ((with_reducible refine isW ?_); refine wpList_store_blk rfl 30 _ _ rfl STStore (w.heap.size + 1 + 1) rfl s1.arr rfl (show Blk _ _ 30 _ from hR1) rfl rfl rfl ?_; intro w2 hR2 hx2) | ((with_reducible refine isW ?_); refine wpList_store_blk rfl 34 _ _ rfl STResult (w.heap.size + 1 + 1 + 1) rfl (resArr r1.code r1.value) rfl (show Blk _ _ 34 _ from hE1b.ext hx2 (fun e => absurd (show (w.heap.size + 1 + 1 + 1) = (w.heap.size + 1 + 1) from e) (by omega))) rfl rfl rfl ?_; intro w3 hE3 hx3))
    have hR3 := hR2.ext hx3 (fun e => absurd (show (w.heap.size + 1 + 1) = (w.heap.size + 1 + 1 + 1) from e) (by omega))
    have hx13 : Ext (fun q => q = (w.heap.size + 1 + 1) ∨ q = (w.heap.size + 1 + 1 + 1)) w1 w3 := (hx2.mono (fun _ _ e => .inl e)).trans hx3 (fun _ _ e => .inr e)
    have hO3 := hO1.keep hx13 (fun q e => by rcases e with rfl | rfl; exact ⟨_, _, hR1, by decide⟩; exact ⟨_, _, hE1b, by decide⟩)
    exact bodyPost_ret (results_cell2 rfl STStore STResult rfl rfl hR3 rfl hE3 rfl) rfl ⟨s1, r1, .slice none 0 0, rfl, hO3, HC.out.trans HF1.out, by rw [HRA.out]; exact ResI.nil _ _, (hxR.trans hx1 (fun b hb e => e.back hxR hb)).trans hx13 (fun b hb e => by omega)⟩
   | false =>
    cases o4 : (c.op == 4) with
    | true =>
     have HC := Lib.hid (show Fsm.command s.data c.d = Fsm.cancel s.data c.d by have hop : c.d.op = 4 := (show c.op = 4 by simpa using o4); unfold Fsm.command; simp [hop])
     go_wp2_with (first | go_skip | go_guarded | ((with_reducible refine isW ?_); refine wpList_load_blk rfl 30 _ rfl STStore w.heap.size rfl s.arr (show Blk _ _ 30 _ from hBW) rfl ?_) | ((with_reducible refine isW ?_); refine wpList_load_blk rfl 51 _ rfl STCmd (w.heap.size + 1) rfl c.arr (show Blk _ _ 51 _ from hCW) rfl ?_) | (go_at_call 29; (with_reducible refine (refCancel base s c W hO hcW hbW hJ1 hDl1 hE1).mono ?_); rintro e w1 ⟨s1, r1, rfl, hO1, hF1, hra, hx1⟩; have HF1 := Lib.hid hF1; have HRA := Lib.hid hra; clear hF1 hra; have hR1 := hRW.kept hx1 (by decide); have hE1b := hEW.kept hx1 (by decide)) | ((with_reducible refine isW ?_); refine wpList_store_blk rfl 30 _ _ rfl STStore (w.heap.size + 1 + 1) rfl s1.arr rfl (show Blk _ _ 30 _ from hR1) rfl rfl rfl ?_; intro w2 hR2 hx2) | ((with_reducible refine isW ?_); refine wpList_store_blk rfl 34 _ _ rfl STResult (w.heap.size + 1 + 1 + 1) rfl (resArr r1.code r1.value) rfl (show Blk _ _ 34 _ from hE1b.ext hx2 (fun e => absurd (show (w.heap.size + 1 + 1 + 1) = (w.heap.size + 1 + 1) from e) (by omega))) rfl rfl rfl ?_; intro w3 hE3 hx3))
     have hR3 := hR2.ext hx3 (fun e => absurd (show (w.heap.size + 1 + 1) = (w.heap.size + 1 + 1 + 1) from e) (by omega))
     have hx13 : Ext (fun q => q = (w.heap.size + 1 + 1) ∨ q = (w.heap.size + 1 + 1 + 1)) w1 w3 := (hx2.mono (fun _ _ e => .inl e)).trans hx3 (fun _ _ e => .inr e)
     have hO3 := hO1.keep hx13 (fun q e => by rcases e with rfl | rfl; exact ⟨_, _, hR1, by decide⟩; exact ⟨_, _, hE1b, by decide⟩)
     exact bodyPost_ret (results_cell2 rfl STStore STResult rfl rfl hR3 rfl hE3 rfl) rfl ⟨s1, r1, .slice none 0 0, rfl, hO3, HC.out.trans HF1.out, by rw [HRA.out]; exact ResI.nil _ _, (hxR.trans hx1 (fun b hb e => e.back hxR hb)).trans hx13 (fun b hb e => by omega)⟩
    | false =>
     cases o5 : (c.op == 5) with
     | true =>
      have HC := Lib.hid (show Fsm.command s.data c.d = Fsm.register s.data c.d by have hop : c.d.op = 5 := (show c.op = 5 by simpa using o5); unfold Fsm.command; simp [hop])
      go_wp2_with (first | go_skip | go_guarded | ((with_reducible refine isW ?_); refine wpList_load_blk rfl 30 _ rfl STStore w.heap.size rfl s.arr (show Blk _ _ 30 _ from hBW) rfl ?_) | ((with_reducible refine isW ?_); refine wpList_load_blk rfl 51 _ rfl STCmd (w.heap.size + 1) rfl c.arr (show Blk _ _ 51 _ from hCW) rfl ?_) | (go_at_call 30; (with_reducible refine (refRegister base s c W hO hcW hbW hJ1 hN hA hE).mono ?_); rintro e w1 ⟨s1, r1, rfl, hO1, hF1, hra, hx1⟩; have HF1 := Lib.hid hF1; have HRA := Lib.hid hra; clear hF1 hra; have hR1 := hRW.kept hx1 (by decide); have hE1b := hEW.kept hx1 (by decide)) | ((with_reducible refine isW ?_); refine wpList_store_blk rfl 30 _ _ rfl STStore (w.heap.size + 1 + 1) rfl s1.arr rfl (show Blk _ _ 30 _ from hR1) rfl rfl rfl ?_; intro w2 hR2 hx2) | ((with_reducible refine isW ?_); refine wpList_store_blk rfl 34 _ _ rfl STResult (w.heap.size + 1 + 1 + 1) rfl (resArr r1.code r1.value) rfl (show Blk _ _ 34 _ from hE1b.ext hx2 (fun e => absurd (show (w.heap.size + 1 + 1 + 1) = (w.heap.size + 1 + 1) from e) (by omega))) rfl rfl rfl ?_; intro w3 hE3 hx3))
      have hR3 := hR2.ext hx3 (fun e => absurd (show (w.heap.size + 1 + 1) = (w.heap.size + 1 + 1 + 1) from e) (by omega))
      have hx13 : Ext (fun q => q = (w.heap.size + 1 + 1) ∨ q = (w.heap.size + 1 + 1 + 1)) w1 w3 := (hx2.mono (fun _ _ e => .inl e)).trans hx3 (fun _ _ e => .inr e)
      have hO3 := hO1.keep hx13 (fun q e => by rcases e with rfl | rfl; exact ⟨_, _, hR1, by decide⟩; exact ⟨_, _, hE1b, by decide⟩)
      exact bodyPost_ret (results_cell2 rfl STStore STResult rfl rfl hR3 rfl hE3 rfl) rfl ⟨s1, r1, .slice none 0 0, rfl, hO3, HC.out.trans HF1.out, by rw [HRA.out]; exact ResI.nil _ _, (hxR.trans hx1 (fun b hb e => e.back hxR hb)).trans hx13 (fun b hb e => by omega)⟩
     | false =>
      cases o6 : (c.op == 6) with
      | true =>
       have HC := Lib.hid (show Fsm.command s.data c.d = Fsm.beat s.data c.d by have hop : c.d.op = 6 := (show c.op = 6 by simpa using o6); unfold Fsm.command; simp [hop])
       go_wp2_with (first | go_skip | go_guarded | ((with_reducible refine isW ?_); refine wpList_load_blk rfl 30 _ rfl STStore w.heap.size rfl s.arr (show Blk _ _ 30 _ from hBW) rfl ?_) | ((with_reducible refine isW ?_); refine wpList_load_blk rfl 51 _ rfl STCmd (w.heap.size + 1) rfl c.arr (show Blk _ _ 51 _ from hCW) rfl ?_) | (go_at_call 31; (with_reducible refine (refBeat base s c W hO hcW hbW hJ1 hN1 hA hDl1 hS hE).mono ?_); rintro e w1 ⟨s1, r1, rv, rfl, hO1, hF1, hres, hx1⟩; have HF1 := Lib.hid hF1; clear hF1; have hR1 := hRW.kept hx1 (by decide); have hE1b := hEW.kept hx1 (by decide); obtain ⟨Av, cv, rfl, hov⟩ := hres; have hres : ResI base w1 (.slice Av r1.allocs.length cv) r1.allocs := ⟨Av, cv, rfl, hov⟩; clear hov) | ((with_reducible refine isW ?_); refine wpList_store_blk rfl 30 _ _ rfl STStore (w.heap.size + 1 + 1) rfl s1.arr rfl (show Blk _ _ 30 _ from hR1) rfl rfl rfl ?_; intro w2 hR2 hx2) | ((with_reducible refine isW ?_); refine wpList_store_blk rfl 34 _ _ rfl STResult (w.heap.size + 1 + 1 + 1) rfl #[.int .i64 r1.code, .int .i64 r1.value, .slice Av r1.allocs.length cv] rfl (show Blk _ _ 34 _ from hE1b.ext hx2 (fun e => absurd (show (w.heap.size + 1 + 1 + 1) = (w.heap.size + 1 + 1) from e) (by omega))) rfl rfl rfl ?_; intro w3 hE3 hx3))
       have hR3 := hR2.ext hx3 (fun e => absurd (show (w.heap.size + 1 + 1) = (w.heap.size + 1 + 1 + 1) from e) (by omega))
       have hx13 : Ext (fun q => q = (w.heap.size + 1 + 1) ∨ q = (w.heap.size + 1 + 1 + 1)) w1 w3 := (hx2.mono (fun _ _ e => .inl e)).trans hx3 (fun _ _ e => .inr e)
       have hO3 := hO1.keep hx13 (fun q e => by rcases e with rfl | rfl; exact ⟨_, _, hR1, by decide⟩; exact ⟨_, _, hE1b, by decide⟩)
       exact bodyPost_ret (results_cell2 rfl STStore STResult rfl rfl hR3 rfl hE3 rfl) rfl ⟨s1, r1, .slice Av r1.allocs.length cv, rfl, hO3, HC.out.trans HF1.out, hres.keep hx13 (fun q e => by rcases e with rfl | rfl; exact ⟨_, _, hR1, by decide⟩; exact ⟨_, _, hE1b, by decide⟩), (hxR.trans hx1 (fun b hb e => e.back hxR hb)).trans hx13 (fun b hb e => by omega)⟩
      | false =>
       cases o7 : (c.op == 7) with
       | true =>
        have HC := Lib.hid (show Fsm.command s.data c.d = Fsm.down s.data c.d by have hop : c.d.op = 7 := (show c.op = 7 by simpa using o7); unfold Fsm.command; simp [hop])
        go_wp2_with (first | go_skip | go_guarded | ((with_reducible refine isW ?_); refine wpList_load_blk rfl 30 _ rfl STStore w.heap.size rfl s.arr (show Blk _ _ 30 _ from hBW) rfl ?_) | ((with_reducible refine isW ?_); refine wpList_load_blk rfl 51 _ rfl STCmd (w.heap.size + 1) rfl c.arr (show Blk _ _ 51 _ from hCW) rfl ?_) | (go_at_call 32; (with_reducible refine (refDown base s c W hO hcW hbW hJ1 hN1 hA hE).mono ?_); rintro e w1 ⟨s1, r1, rfl, hO1, hF1, hra, hx1⟩; have HF1 := Lib.hid hF1; have HRA := Lib.hid hra; clear hF1 hra; have hR1 := hRW.kept hx1 (by decide); have hE1b := hEW.kept hx1 (by decide)) | ((with_reducible refine isW ?_); refine wpList_store_blk rfl 30 _ _ rfl STStore (w.heap.size + 1 + 1) rfl s1.arr rfl (show Blk _ _ 30 _ from hR1) rfl rfl rfl ?_; intro w2 hR2 hx2) | ((with_reducible refine isW ?_); refine wpList_store_blk rfl 34 _ _ rfl STResult (w.heap.size + 1 + 1 + 1) rfl (resArr r1.code r1.value) rfl (show Blk _ _ 34 _ from hE1b.ext hx2 (fun e => absurd (show (w.heap.size + 1 + 1 + 1) = (w.heap.size + 1 + 1) from e) (by omega))) rfl rfl rfl ?_; intro w3 hE3 hx3))
        have hR3 := hR2.ext hx3 (fun e => absurd (show (w.heap.size + 1 + 1) = (w.heap.size + 1 + 1 + 1) from e) (by omega))
        have hx13 : Ext (fun q => q = (w.heap.size + 1 + 1) ∨ q = (w.heap.size + 1 + 1 + 1)) w1 w3 := (hx2.mono (fun _ _ e => .inl e)).trans hx3 (fun _ _ e => .inr e)
        have hO3 := hO1.keep hx13 (fun q e => by rcases e with rfl | rfl; exact ⟨_, _, hR1, by decide⟩; exact ⟨_, _, hE1b, by decide⟩)
        exact bodyPost_ret (results_cell2 rfl STStore STResult rfl rfl hR3 rfl hE3 rfl) rfl ⟨s1, r1, .slice none 0 0, rfl, hO3, HC.out.trans HF1.out, by rw [HRA.out]; exact ResI.nil _ _, (hxR.trans hx1 (fun b hb e => e.back hxR hb)).trans hx13 (fun b hb e => by omega)⟩
       | false =>
        cases o8 : (c.op == 8) with
        | true =>
         have HC := Lib.hid (show Fsm.command s.data c.d = Fsm.drain s.data c.d by have hop : c.d.op = 8 := (show c.op = 8 by simpa using o8); unfold Fsm.command; simp [hop])
         go_wp2_with (first | go_skip | go_guarded | ((with_reducible refine isW ?_); refine wpList_load_blk rfl 30 _ rfl STStore w.heap.size rfl s.arr (show Blk _ _ 30 _ from hBW) rfl ?_) | ((with_reducible refine isW ?_); refine wpList_load_blk rfl 51 _ rfl STCmd (w.heap.size + 1) rfl c.arr (show Blk _ _ 51 _ from hCW) rfl ?_) | (go_at_call 33; (with_reducible refine (refDrain base s c W hO hcW hbW hJ1 hN1 hA hE).mono ?_); rintro e w1 ⟨s1, r1, rfl, hO1, hF1, hra, hx1⟩; have HF1 := Lib.hid hF1; have HRA := Lib.hid hra; clear hF1 hra; have hR1 := hRW.kept hx1 (by decide); have hE1b := hEW.kept hx1 (by decide)) | ((with_reducible refine isW ?_); refine wpList_store_blk rfl 30 _ _ rfl STStore (w.heap.size + 1 + 1) rfl s1.arr rfl (show Blk _ _ 30 _ from hR1) rfl rfl rfl ?_; intro w2 hR2 hx2) | ((with_reducible refine isW ?_); refine wpList_store_blk rfl 34 _ _ rfl STResult (w.heap.size + 1 + 1 + 1) rfl (resArr r1.code r1.value) rfl (show Blk _ _ 34 _ from hE1b.ext hx2 (fun e => absurd (show (w.heap.size + 1 + 1 + 1) = (w.heap.size + 1 + 1) from e) (by omega))) rfl rfl rfl ?_; intro w3 hE3 hx3))
         have hR3 := hR2.ext hx3 (fun e => absurd (show (w.heap.size + 1 + 1) = (w.heap.size + 1 + 1 + 1) from e) (by omega))
         have hx13 : Ext (fun q => q = (w.heap.size + 1 + 1) ∨ q = (w.heap.size + 1 + 1 + 1)) w1 w3 := (hx2.mono (fun _ _ e => .inl e)).trans hx3 (fun _ _ e => .inr e)
         have hO3 := hO1.keep hx13 (fun q e => by rcases e with rfl | rfl; exact ⟨_, _, hR1, by decide⟩; exact ⟨_, _, hE1b, by decide⟩)
         exact bodyPost_ret (results_cell2 rfl STStore STResult rfl rfl hR3 rfl hE3 rfl) rfl ⟨s1, r1, .slice none 0 0, rfl, hO3, HC.out.trans HF1.out, by rw [HRA.out]; exact ResI.nil _ _, (hxR.trans hx1 (fun b hb e => e.back hxR hb)).trans hx13 (fun b hb e => by omega)⟩
        | false =>
         cases o9 : (c.op == 9) with
         | true =>
          have HC := Lib.hid (show Fsm.command s.data c.d = Fsm.plan s.data c.d by have hop : c.d.op = 9 := (show c.op = 9 by simpa using o9); unfold Fsm.command; simp [hop])
          go_wp2_with (first | go_skip | go_guarded | ((with_reducible refine isW ?_); refine wpList_load_blk rfl 30 _ rfl STStore w.heap.size rfl s.arr (show Blk _ _ 30 _ from hBW) rfl ?_) | ((with_reducible refine isW ?_); refine wpList_load_blk rfl 51 _ rfl STCmd (w.heap.size + 1) rfl c.arr (show Blk _ _ 51 _ from hCW) rfl ?_) | (go_at_call 34; (with_reducible refine (refPlan base s c W hO hcW hbW hJ1 hN1 hA hE1).mono ?_); rintro e w1 ⟨s1, r1, rfl, hO1, hF1, hra, hx1⟩; have HF1 := Lib.hid hF1; have HRA := Lib.hid hra; clear hF1 hra; have hR1 := hRW.kept hx1 (by decide); have hE1b := hEW.kept hx1 (by decide)) | ((with_reducible refine isW ?_); refine wpList_store_blk rfl 30 _ _ rfl STStore (w.heap.size + 1 + 1) rfl s1.arr rfl (show Blk _ _ 30 _ from hR1) rfl rfl rfl ?_; intro w2 hR2 hx2) | ((with_reducible refine isW ?_); refine wpList_store_blk rfl 34 _ _ rfl STResult (w.heap.size + 1 + 1 + 1) rfl (resArr r1.code r1.value) rfl (show Blk _ _ 34 _ from hE1b.ext hx2 (fun e => absurd (show (w.heap.size + 1 + 1 + 1) = (w.heap.size + 1 + 1) from e) (by omega))) rfl rfl rfl ?_; intro w3 hE3 hx3))
          have hR3 := hR2.ext hx3 (fun e => absurd (show (w.heap.size + 1 + 1) = (w.heap.size + 1 + 1 + 1) from e) (by omega))
          have hx13 : Ext (fun q => q = (w.heap.size + 1 + 1) ∨ q = (w.heap.size + 1 + 1 + 1)) w1 w3 := (hx2.mono (fun _ _ e => .inl e)).trans hx3 (fun _ _ e => .inr e)
          have hO3 := hO1.keep hx13 (fun q e => by rcases e with rfl | rfl; exact ⟨_, _, hR1, by decide⟩; exact ⟨_, _, hE1b, by decide⟩)
          exact bodyPost_ret (results_cell2 rfl STStore STResult rfl rfl hR3 rfl hE3 rfl) rfl ⟨s1, r1, .slice none 0 0, rfl, hO3, HC.out.trans HF1.out, by rw [HRA.out]; exact ResI.nil _ _, (hxR.trans hx1 (fun b hb e => e.back hxR hb)).trans hx13 (fun b hb e => by omega)⟩
         | false =>
          cases o10 : (c.op == 10) with
          | true =>
           have HC := Lib.hid (show Fsm.command s.data c.d = Fsm.revert s.data c.d by have hop : c.d.op = 10 := (show c.op = 10 by simpa using o10); unfold Fsm.command; simp [hop])
           go_wp2_with (first | go_skip | go_guarded | ((with_reducible refine isW ?_); refine wpList_load_blk rfl 30 _ rfl STStore w.heap.size rfl s.arr (show Blk _ _ 30 _ from hBW) rfl ?_) | ((with_reducible refine isW ?_); refine wpList_load_blk rfl 51 _ rfl STCmd (w.heap.size + 1) rfl c.arr (show Blk _ _ 51 _ from hCW) rfl ?_) | (go_at_call 35; (with_reducible refine (refRevert base s c W hO hcW hbW hJ hA hDl hS hE1).mono ?_); rintro e w1 ⟨s1, r1, rfl, hO1, hF1, hra, hx1⟩; have HF1 := Lib.hid hF1; have HRA := Lib.hid hra; clear hF1 hra; have hR1 := hRW.kept hx1 (by decide); have hE1b := hEW.kept hx1 (by decide)) | ((with_reducible refine isW ?_); refine wpList_store_blk rfl 30 _ _ rfl STStore (w.heap.size + 1 + 1) rfl s1.arr rfl (show Blk _ _ 30 _ from hR1) rfl rfl rfl ?_; intro w2 hR2 hx2) | ((with_reducible refine isW ?_); refine wpList_store_blk rfl 34 _ _ rfl STResult (w.heap.size + 1 + 1 + 1) rfl (resArr r1.code r1.value) rfl (show Blk _ _ 34 _ from hE1b.ext hx2 (fun e => absurd (show (w.heap.size + 1 + 1 + 1) = (w.heap.size + 1 + 1) from e) (by omega))) rfl rfl rfl ?_; intro w3 hE3 hx3))
           have hR3 := hR2.ext hx3 (fun e => absurd (show (w.heap.size + 1 + 1) = (w.heap.size + 1 + 1 + 1) from e) (by omega))
           have hx13 : Ext (fun q => q = (w.heap.size + 1 + 1) ∨ q = (w.heap.size + 1 + 1 + 1)) w1 w3 := (hx2.mono (fun _ _ e => .inl e)).trans hx3 (fun _ _ e => .inr e)
           have hO3 := hO1.keep hx13 (fun q e => by rcases e with rfl | rfl; exact ⟨_, _, hR1, by decide⟩; exact ⟨_, _, hE1b, by decide⟩)
           exact bodyPost_ret (results_cell2 rfl STStore STResult rfl rfl hR3 rfl hE3 rfl) rfl ⟨s1, r1, .slice none 0 0, rfl, hO3, HC.out.trans HF1.out, by rw [HRA.out]; exact ResI.nil _ _, (hxR.trans hx1 (fun b hb e => e.back hxR hb)).trans hx13 (fun b hb e => by omega)⟩
          | false =>
           have n1 : c.d.op ≠ 1 := (show c.op ≠ 1 by simpa using o1)
           have n2 : c.d.op ≠ 2 := (show c.op ≠ 2 by simpa using o2)
           have n3 : c.d.op ≠ 3 := (show c.op ≠ 3 by simpa using o3)
           have n4 : c.d.op ≠ 4 := (show c.op ≠ 4 by simpa using o4)
           have n5 : c.d.op ≠ 5 := (show c.op ≠ 5 by simpa using o5)
           have n6 : c.d.op ≠ 6 := (show c.op ≠ 6 by simpa using o6)
           have n7 : c.d.op ≠ 7 := (show c.op ≠ 7 by simpa using o7)
           have n8 : c.d.op ≠ 8 := (show c.op ≠ 8 by simpa using o8)
           have n9 : c.d.op ≠ 9 := (show c.op ≠ 9 by simpa using o9)
           have n10 : c.d.op ≠ 10 := (show c.op ≠ 10 by simpa using o10)
           have HC := Lib.hid (show Fsm.command s.data c.d = (s.data, ⟨50, 0, []⟩) by unfold Fsm.command; simp [n1, n2, n3, n4, n5, n6, n7, n8, n9, n10, Fsm.no])
           clear n1 n2 n3 n4 n5 n6 n7 n8 n9 n10
           go_upto_region 21 with (first | go_skip | go_guarded)
           refine zH (S := fun q => q = (w.heap.size + 1 + 1) ∨ q = (w.heap.size + 1 + 1 + 1)) (by kernel_rfl) (fun Wd hd hd0 => ?_)
           refine zT 0 (.agg s.arr) rfl (by kernel_rfl) (by rfl) hd (fun _ _ _ h => h) ?_ ?_
           ·intro W' hS'
            exact run_load_blk rfl STStore (by go_simp) (hBW.ext hS' (by omega)) rfl
           simp only [Act.put, zA, zB, zC, zD, zE, zF]
           refine zO 1 (by kernel_rfl) ?_
           refine wpOp_call (f := 16) (args := #[.int .i64 50]) rfl (by rfl) (by go_simp) ((refNo 50 Wd).mono ?_)
           rintro e wn ⟨rfl, hxn⟩
           have hd1 := hd.trans hxn (fun _ _ e => e.elim)
           have hd01 := hd0.tr hxn
           refine ⟨_, rfl, hd1, ?_⟩
           simp only [Act.put, zA, zB, zC, zD, zE, zF]
           refine zO 2 (by kernel_rfl) ?_
           refine wpOp_store (p := (w.heap.size + 1 + 1)) (cs := s.arr) rfl (by rfl) rfl (by go_simp) (by go_simp) (hRW.e0 hd01) rfl STStore rfl rfl (fun w2 hR2 hx2 => ?_)
           have hd2 := hd1.trans hx2 (fun q hq e => .inl e)
           refine ⟨hd2, ?_⟩
           simp only [Act.put, zA, zB, zC, zD, zE, zF]
           refine zO 3 (by kernel_rfl) ?_
           refine wpOp_store (p := (w.heap.size + 1 + 1 + 1)) (cs := resArr 50 0) rfl (by rfl) rfl (by go_simp) (by go_simp) ((hEW.e0 hd01).ext hx2 (fun e => absurd (show (w.heap.size + 1 + 1 + 1) = (w.heap.size + 1 + 1) from e) (by omega))) rfl STResult rfl rfl (fun w3 hE3 hx3' => ?_)
           have hx3 := hd2.trans hx3' (fun q hq e => .inr e)
           have hR3 := hR2.ext hx3' (fun e => absurd (show (w.heap.size + 1 + 1) = (w.heap.size + 1 + 1 + 1) from e) (by omega))
           refine ⟨hx3, wpAnyH_done (by kernel_rfl) ?_ _⟩
           simp only [Act.put, zA, zB, zC, zD, zE, zF]
           go_wp2
           have hxx : Ext Nothing w w3 := hxW.trans hx3 (fun b hb e => by omega)
           exact bodyPost_ret (results_cell2 rfl STStore STResult rfl rfl hR3 rfl hE3 rfl) rfl ⟨s, ⟨50, 0, []⟩, .slice none 0 0, rfl, h.keep0 hxx, HC.out, ResI.nil _ _, hxx.mono (fun _ _ e => e.elim)⟩
end Go.Proofs.YtlpfcmnnmdhaoaaGreat
