/- Parts of the proof: RefUs RefKept RefSame HoldsL OwnOk Lives0 PartsF -/
import Derived.Test.YtlpfcmnnmdhaoaaGreatQ11
import Derived.Deep.CutRange
import Derived.Test.YtlpfcmnnmdhaoaaGreatQ10
import Derived.Test.YtlpfcmnnmdhaoaaGreatQ06
import Derived.Test.YtlpfcmnnmdhaoaaGreatQ09
import Derived.Test.YtlpfcmnnmdhaoaaGreatQ07
import Derived.Test.YtlpfcmnnmdhaoaaGreatQ04
namespace Go.Proofs.YtlpfcmnnmdhaoaaGreat
set_option linter.unusedVariables false
set_option linter.unusedSimpArgs false
set_option linter.unusedSectionVars false
section
open Go.RowKit
theorem ref_use_none (node : Int) : ∀ l : List AllocD, l.foldl (useStep node) none = none
 | [] => rfl
 | a :: r => by rw [List.foldl_cons]; exact ref_use_none node r
set_option maxRecDepth 20000 in
set_option maxHeartbeats 4000000 in
theorem refUsed (A : Option Addr) (n cap : Nat) (l : List AllocD) (node : Int) (w : World) (hl : Sl w 11 A n (l.map AllocD.cells)) (hn : n ≤ 67108864) (s0 s1 s2 s3 s4 s6 s7 s8 : Value) :
  Calls Tryz.prog 14 #[.agg #[s0, s1, s2, s3, s4, .slice A n cap, s6, s7, s8], .int .i64 node] w fun e w' => e = .returned (.agg #[.int .i64 (usedS l node).cpu, .int .i64 (usedS l node).mem]) ∧ Ext Nothing w w' := by
 have hlen := Lib.hid hl.len
 have hx0 : Ext Nothing w (((w.alloc (.cells #[s0, s1, s2, s3, s4, .slice A n cap, s6, s7, s8] 30)).alloc (.cells #[.int .i64 0, .int .i64 0] 41)).alloc (.cells #[.int .i64 0, .int .i64 0] 41)) := Ext.auto
 have hB0 : Blk (((w.alloc (.cells #[s0, s1, s2, s3, s4, .slice A n cap, s6, s7, s8] 30)).alloc (.cells #[.int .i64 0, .int .i64 0] 41)).alloc (.cells #[.int .i64 0, .int .i64 0] 41)) w.heap.size 30 #[s0, s1, s2, s3, s4, .slice A n cap, s6, s7, s8] := (Blk.new w _ _).e0 Ext.auto
 have hR0 : Blk (((w.alloc (.cells #[s0, s1, s2, s3, s4, .slice A n cap, s6, s7, s8] 30)).alloc (.cells #[.int .i64 0, .int .i64 0] 41)).alloc (.cells #[.int .i64 0, .int .i64 0] 41)) (w.heap.size + 1) 41 #[.int .i64 0, .int .i64 0] := (Blk.new' (w.alloc (.cells #[s0, s1, s2, s3, s4, .slice A n cap, s6, s7, s8] 30)) _ _ (by simp)).e0 Ext.auto
 have hT0 : Blk (((w.alloc (.cells #[s0, s1, s2, s3, s4, .slice A n cap, s6, s7, s8] 30)).alloc (.cells #[.int .i64 0, .int .i64 0] 41)).alloc (.cells #[.int .i64 0, .int .i64 0] 41)) (w.heap.size + 1 + 1) 41 #[.int .i64 0, .int .i64 0] := Blk.new' _ _ _ (by simp)
 go_enter Tryz.func14, Tryz.ntmps14
 go_wp2
 generalize (((w.alloc (.cells #[s0, s1, s2, s3, s4, .slice A n cap, s6, s7, s8] 30)).alloc (.cells #[.int .i64 0, .int .i64 0] 41)).alloc (.cells #[.int .i64 0, .int .i64 0] 41)) = W at hx0 hB0 hR0 hT0 ⊢
 go_loopw [6] (fun c wr => ∃ t : Nat, t ≤ n ∧ c = .int .i64 t ∧ ∃ r : ResD, (l.take t).foldl (useStep node) (some ⟨0, 0⟩) = some r ∧ Blk wr w.heap.size 30 #[s0, s1, s2, s3, s4, .slice A n cap, s6, s7, s8] ∧ Blk wr (w.heap.size + 1) 41 #[.int .i64 0, .int .i64 0] ∧ Blk wr (w.heap.size + 1 + 1) 41 #[.int .i64 r.cpu, .int .i64 r.mem] ∧ Ext Nothing w wr) (fun c _ => n - (intOf c).toNat)
 case atStart => exact ⟨0, Nat.zero_le _, rfl, ⟨0, 0⟩, rfl, hB0, hR0, hT0, hx0⟩
 case round =>
  obtain ⟨t, ht, rfl, r, hD, hB, hR, hT, hx⟩ := hrel
  have c5 : wr.cell? ⟨w.heap.size, 5, none⟩ = some (.slice A n cap) := hB.cell 5
  have hzr : w.heap.size + 1 + 1 < wr.heap.size := hT.lt
  by_cases hlt : t < n
  ·obtain ⟨hjn, b, off, hAe, hce⟩ := hl.get hx hlt
   have hst := foldl_take (useStep node) (some ⟨0, 0⟩) l t hjn
   rw [hD] at hst
   have hfold : l.foldl (useStep node) (some ⟨0, 0⟩) = (l.drop (t + 1)).foldl (useStep node) ((l.take (t + 1)).foldl (useStep node) (some ⟨0, 0⟩)) := by rw [← List.foldl_append, List.take_append_drop]
   generalize l[t] = y at hce hst
   obtain ⟨y0, y1, y2, y3, y4, y5, y6, ⟨y7, y8⟩, y9, y10⟩ := y
   rw [hAe] at c5
   have hk0 : (0 : Int) ≤ (t : Int) := by omega
   have hk1 : (t : Int) < n := by omega
   have hxQ : Ext Nothing wr (wr.alloc (.cells #[.int .i64 y0, .int .i64 y1, .int .i64 y2, .int .i64 y3, .int .i64 y4, .int .i64 y5, .int .i64 y6, .int .i64 y7, .int .i64 y8, .bool y9, .int .i64 y10] 58)) := Ext.auto
   have hQ : Blk (wr.alloc (.cells #[.int .i64 y0, .int .i64 y1, .int .i64 y2, .int .i64 y3, .int .i64 y4, .int .i64 y5, .int .i64 y6, .int .i64 y7, .int .i64 y8, .bool y9, .int .i64 y10] 58)) wr.heap.size 58 #[.int .i64 y0, .int .i64 y1, .int .i64 y2, .int .i64 y3, .int .i64 y4, .int .i64 y5, .int .i64 y6, .int .i64 y7, .int .i64 y8, .bool y9, .int .i64 y10] := Blk.new _ _ _
   have hBq := hB.e0 hxQ
   have hRq := hR.e0 hxQ
   have hTq := hT.e0 hxQ
   have hxq := hx.tr hxQ
   have HT := Lib.hid hlt
   have HA := Lib.hid hAe
   have HS := Lib.hid hst
   have HFO := Lib.hid hfold
   have HCE := Lib.hid hce
   clear hAe hst hfold hD
   go_upto_region 6 with (first | go_skip | ((with_reducible refine isW ?_); refine wpList_load_at rfl 58 _ rfl STAlloc b (off + t * 11) rfl #[.int .i64 y0, .int .i64 y1, .int .i64 y2, .int .i64 y3, .int .i64 y4, .int .i64 y5, .int .i64 y6, .int .i64 y7, .int .i64 y8, .bool y9, .int .i64 y10] hce rfl ?_))
   clear c5 hce
   generalize hq0 : wr.heap.size = Q at hQ ⊢
   generalize (wr.alloc (.cells #[.int .i64 y0, .int .i64 y1, .int .i64 y2, .int .i64 y3, .int .i64 y4, .int .i64 y5, .int .i64 y6, .int .i64 y7, .int .i64 y8, .bool y9, .int .i64 y10] 58)) = wq at hQ hBq hRq hTq hxq ⊢
   clear hxQ
   have q5 : wq.cell? ⟨Q, 5, none⟩ = some (.int .i64 y5) := hQ.cell 5
   have q10 : wq.cell? ⟨Q, 10, none⟩ = some (.int .i64 y10) := hQ.cell 10
   have q7 : wq.cell? ⟨Q, 7, none⟩ = some (.int .i64 y7) := hQ.cell 7
   have q8 : wq.cell? ⟨Q, 8, none⟩ = some (.int .i64 y8) := hQ.cell 8
   cases hq : (y5 == node && !overB ⟨y0, y1, y2, y3, y4, y5, y6, ⟨y7, y8⟩, y9, y10⟩) with
   | false =>
    have hs1 := Lib.hid (HS.out.trans (show useStep node (some r) ⟨y0, y1, y2, y3, y4, y5, y6, ⟨y7, y8⟩, y9, y10⟩ = some r from by unfold useStep; simp only []; rw [hq]; rfl))
    cases h1 : (y5 != node) with
    | true =>
     go_wp2_with (first | go_skip | go_guarded)
     go_roundw
     case rel => exact ⟨t + 1, HT.out, by go_num, r, hs1.out, hBq, hRq, hTq, hxq⟩
     case measure => have := HT.out; simp [intOf]; omega
    | false =>
     have h3 : decide (3 ≤ y10) = true := by rw [show (y5 == node) = true from by simpa using h1] at hq; simp [overB] at hq; simp; omega
     go_wp2_with (first | go_skip | go_guarded)
     go_roundw
     case rel => exact ⟨t + 1, HT.out, by go_num, r, hs1.out, hBq, hRq, hTq, hxq⟩
     case measure => have := HT.out; simp [intOf]; omega
   | true =>
    have hs1 := Lib.hid (HS.out.trans (show useStep node (some r) ⟨y0, y1, y2, y3, y4, y5, y6, ⟨y7, y8⟩, y9, y10⟩ = addF r ⟨y7, y8⟩ from by unfold useStep; simp only []; rw [hq]; rfl))
    have h1 : (y5 != node) = false := by revert hq; cases h : (y5 == node) <;> simp at h ⊢ <;> simp [h]
    have h3 : decide (3 ≤ y10) = false := by rw [show (y5 == node) = true from by simpa using h1] at hq; simp [overB] at hq; simp; omega
    have hQ7 : ∀ j u, (#[Value.int .i64 y7, .int .i64 y8] : Array Value).toList[j]? = some u → wq.cell? ⟨Q, 7 + j, none⟩ = some u := fun j u hu => by
     match j, hu with
     | 0, hu => rw [← hu]; exact q7
     | 1, hu => rw [← hu]; exact q8
     | (k + 2), hu => simp at hu
    obtain ⟨o, ho⟩ : ∃ o, addF r ⟨y7, y8⟩ = o := ⟨_, rfl⟩
    have HO := Lib.hid ho
    clear ho
    go_upto_region 8 with (first | go_skip | go_guarded | ((with_reducible refine isW ?_); refine wpList_load_blk rfl 41 _ rfl STRes2 (w.heap.size + 1 + 1) rfl #[.int .i64 r.cpu, .int .i64 r.mem] hTq rfl ?_) | ((with_reducible refine isW ?_); refine wpList_load_at rfl 41 _ rfl STRes2 Q 7 rfl #[.int .i64 y7, .int .i64 y8] hQ7 rfl ?_) | (go_at_call 27; (with_reducible refine (ref06Add r ⟨y7, y8⟩ wq).mono ?_); rintro e w1 ⟨rfl, hx1⟩; (rw [HO.out])))
    have hP : Blk (w1.alloc (.cells #[.int .i64 (optR o).cpu, .int .i64 (optR o).mem] 41)) w1.heap.size 41 #[.int .i64 (optR o).cpu, .int .i64 (optR o).mem] := Blk.new _ _ _
    have hxp : Ext Nothing w1 (w1.alloc (.cells #[.int .i64 (optR o).cpu, .int .i64 (optR o).mem] 41)) := Ext.auto
    have hBp := (hBq.e0 hx1).e0 hxp
    have hRp := (hRq.e0 hx1).e0 hxp
    have hTp := (hTq.e0 hx1).e0 hxp
    have hxw := (hxq.tr hx1).tr hxp
    have hzp : w.heap.size + 1 + 1 < w1.heap.size := (hTq.e0 hx1).lt
    generalize hpp : w1.heap.size = P at hP hzp ⊢
    generalize (w1.alloc (.cells #[.int .i64 (optR o).cpu, .int .i64 (optR o).mem] 41)) = wp at hP hBp hRp hTp hxw ⊢
    clear hxp hx1 hpp
    cases o with
    | none =>
     have HB := Lib.hid (show usedS l node = big by unfold usedS; rw [HFO.out, hs1.out, HO.out, ref_use_none]; rfl)
     simp only [Option.isSome_none]
     go_wp2_with (first | go_skip | go_guarded | ((with_reducible refine isW ?_); refine wpList_store_blk rfl 41 _ _ rfl STRes2 (w.heap.size + 1) rfl #[.int .i64 1152921504606846976, .int .i64 1152921504606846976] rfl hRp rfl rfl rfl ?_; intro w3 hR3 hx3))
     exact bodyPost_ret (results_cell rfl STRes2 (g := w.heap.size + 1) rfl hR3 rfl) rfl ⟨by rw [HB.out]; rfl, hxw.trans hx3 (fun b hb e => absurd (show b = w.heap.size + 1 from e) (by omega))⟩
    | some r2 =>
     have hs2 := Lib.hid (hs1.out.trans HO.out)
     have hP : Blk wp P 41 #[.int .i64 r2.cpu, .int .i64 r2.mem] := hP
     simp only [Option.isSome_some, optR, Option.getD_some]
     go_wp2_with (first | go_skip | go_guarded | ((with_reducible refine isW ?_); refine wpList_load_blk rfl 41 _ rfl STRes2 P rfl #[.int .i64 r2.cpu, .int .i64 r2.mem] hP rfl ?_) | ((with_reducible refine isW ?_); refine wpList_store_blk rfl 41 _ _ rfl STRes2 (w.heap.size + 1 + 1) rfl #[.int .i64 r2.cpu, .int .i64 r2.mem] rfl hTp rfl rfl rfl ?_; intro w3 hT3 hx3))
     go_roundw
     case rel => exact ⟨t + 1, HT.out, by go_num, r2, hs2.out, hBp.ext hx3 (fun e => absurd (show w.heap.size = w.heap.size + 1 + 1 from e) (by omega)), hRp.ext hx3 (fun e => absurd (show w.heap.size + 1 = w.heap.size + 1 + 1 from e) (by omega)), hT3, hxw.trans hx3 (fun b hb e => absurd (show b = w.heap.size + 1 + 1 from e) (by omega))⟩
     case measure => have := HT.out; simp [intOf]; omega
  ·have hnl : ¬ ((t : Int) < n) := by omega
   have HB := Lib.hid (show usedS l node = r by unfold usedS; rw [List.take_of_length_le (by have := hlen.out; omega)] at hD; rw [hD]; rfl)
   clear hD
   go_wp2_with (first | go_skip | go_guarded | ((with_reducible refine isW ?_); refine wpList_load_blk rfl 41 _ rfl STRes2 (w.heap.size + 1 + 1) rfl #[.int .i64 r.cpu, .int .i64 r.mem] hT rfl ?_) | ((with_reducible refine isW ?_); refine wpList_store_blk rfl 41 _ _ rfl STRes2 (w.heap.size + 1) rfl #[.int .i64 r.cpu, .int .i64 r.mem] rfl hR rfl rfl rfl ?_; intro w3 hR3 hx3))
   exact bodyPost_ret (results_cell rfl STRes2 (g := w.heap.size + 1) rfl hR3 rfl) rfl ⟨by rw [HB.out], hx.trans hx3 (fun b hb e => absurd (show b = w.heap.size + 1 from e) (by omega))⟩
end
section
open Go.RowKit
set_option maxRecDepth 20000 in
set_option maxHeartbeats 4000000 in
theorem refKept (base : Nat) (s : StoreV) (a : AllocD) (w : World) (h : OwnS base w s) (hJ : s.jobs.length ≤ 1048576) :
  Calls Tryz.prog 82 #[.agg s.arr, .agg #[.int .i64 a.id, .int .i64 a.job, .int .i64 a.ver, .int .i64 a.group, .int .i64 a.index, .int .i64 a.node, .int .i64 a.epoch, .int .i64 a.ask.cpu, .int .i64 a.ask.mem, .bool a.stop, .int .i64 a.state]] w fun e w' => e = .returned (.bool (Fsm.keptB s.data.jobs a)) ∧ Ext Nothing w w' := by
 have hx0 : Ext Nothing w ((w.alloc (.cells s.arr 30)).alloc (.cells #[.int .i64 a.id, .int .i64 a.job, .int .i64 a.ver, .int .i64 a.group, .int .i64 a.index, .int .i64 a.node, .int .i64 a.epoch, .int .i64 a.ask.cpu, .int .i64 a.ask.mem, .bool a.stop, .int .i64 a.state] 58)) := Ext.auto
 have hB0 : Blk ((w.alloc (.cells s.arr 30)).alloc (.cells #[.int .i64 a.id, .int .i64 a.job, .int .i64 a.ver, .int .i64 a.group, .int .i64 a.index, .int .i64 a.node, .int .i64 a.epoch, .int .i64 a.ask.cpu, .int .i64 a.ask.mem, .bool a.stop, .int .i64 a.state] 58)) w.heap.size 30 s.arr := (Blk.new w _ _).e0 Ext.auto
 have hA0 : Blk ((w.alloc (.cells s.arr 30)).alloc (.cells #[.int .i64 a.id, .int .i64 a.job, .int .i64 a.ver, .int .i64 a.group, .int .i64 a.index, .int .i64 a.node, .int .i64 a.epoch, .int .i64 a.ask.cpu, .int .i64 a.ask.mem, .bool a.stop, .int .i64 a.state] 58)) (w.heap.size + 1) 58 #[.int .i64 a.id, .int .i64 a.job, .int .i64 a.ver, .int .i64 a.group, .int .i64 a.index, .int .i64 a.node, .int .i64 a.epoch, .int .i64 a.ask.cpu, .int .i64 a.ask.mem, .bool a.stop, .int .i64 a.state] := Blk.new' _ _ _ (by simp)
 have hsj := h.slJ
 have hjl := Lib.hid h.jl
 have hnJ : s.nJ ≤ 67108864 := by have := h.jl; omega
 have hidx := idx_cases (fun x : JobV => x.1.id == a.job) s.jobs
 go_enter Tryz.func82, Tryz.ntmps82
 go_upto_region 1 with fail
 generalize ((w.alloc (.cells s.arr 30)).alloc (.cells #[.int .i64 a.id, .int .i64 a.job, .int .i64 a.ver, .int .i64 a.group, .int .i64 a.index, .int .i64 a.node, .int .i64 a.epoch, .int .i64 a.ask.cpu, .int .i64 a.ask.mem, .bool a.stop, .int .i64 a.state] 58)) = W at hx0 hB0 hA0 ⊢
 have a1 : W.cell? ⟨w.heap.size + 1, 1, none⟩ = some (.int .i64 a.job) := hA0.cell 1
 rcases hidx with ⟨hi, hf, _⟩ | ⟨i, x, hi, hxi, hp, hf, _⟩
 ·have HJ := Lib.hid (show s.data.jobs.find? (fun j => j.id == a.job) = none from jobAt_none hf)
  have HI := Lib.hid hi
  clear hi hf
  cases h3 : decide (a.state < 3) with
  | true =>
   have H := Lib.hid (show Fsm.keptB s.data.jobs a = true by unfold Fsm.keptB overB; rw [show decide (3 ≤ a.state) = false from by simp at h3 ⊢; omega]; rfl)
   go_wp2_with (first | go_skip | go_guarded | ((with_reducible refine isW ?_); refine wpList_load_blk rfl 30 _ rfl STStore w.heap.size rfl s.arr hB0 rfl ?_) | (go_at_call 51; (with_reducible refine (refAtJob s.AJ s.nJ s.cJ s.jobs a.job W (hsj.ext0 hx0) hnJ _ _ _ _ _ _ _ _).mono ?_); rintro e w1 ⟨rfl, hx1⟩; rw [HI.out]; have hx2 := hx0.tr hx1; have hA1 := hA0.e0 hx1; have a10 : w1.cell? ⟨w.heap.size + 1, 10, none⟩ = some (.int .i64 a.state) := hA1.cell 10; have a2 : w1.cell? ⟨w.heap.size + 1, 2, none⟩ = some (.int .i64 a.ver) := hA1.cell 2))
   go_quiet (fail)
   go_wp2
   go_ret
   exact ⟨by rw [H.out]; rfl, hx2.drewN _⟩
  | false =>
   have ho : overB a = true := by unfold overB; simp at h3 ⊢; omega
   have HO := Lib.hid ho
   clear ho
   cases h4 : (a.state == 3) with
   | false =>
    have H := Lib.hid (show Fsm.keptB s.data.jobs a = false by unfold Fsm.keptB; rw [HO.out, h4]; rfl)
    go_wp2_with (first | go_skip | go_guarded | ((with_reducible refine isW ?_); refine wpList_load_blk rfl 30 _ rfl STStore w.heap.size rfl s.arr hB0 rfl ?_) | (go_at_call 51; (with_reducible refine (refAtJob s.AJ s.nJ s.cJ s.jobs a.job W (hsj.ext0 hx0) hnJ _ _ _ _ _ _ _ _).mono ?_); rintro e w1 ⟨rfl, hx1⟩; rw [HI.out]; have hx2 := hx0.tr hx1; have hA1 := hA0.e0 hx1; have a10 : w1.cell? ⟨w.heap.size + 1, 10, none⟩ = some (.int .i64 a.state) := hA1.cell 10; have a2 : w1.cell? ⟨w.heap.size + 1, 2, none⟩ = some (.int .i64 a.ver) := hA1.cell 2))
    go_quiet (fail)
    go_wp2
    go_ret
    exact ⟨by rw [H.out]; rfl, hx2.drewN _⟩
   | true =>
    have H := Lib.hid (show Fsm.keptB s.data.jobs a = false by unfold Fsm.keptB; rw [HO.out, h4, HJ.out]; rfl)
    go_wp2_with (first | go_skip | go_guarded | ((with_reducible refine isW ?_); refine wpList_load_blk rfl 30 _ rfl STStore w.heap.size rfl s.arr hB0 rfl ?_) | (go_at_call 51; (with_reducible refine (refAtJob s.AJ s.nJ s.cJ s.jobs a.job W (hsj.ext0 hx0) hnJ _ _ _ _ _ _ _ _).mono ?_); rintro e w1 ⟨rfl, hx1⟩; rw [HI.out]; have hx2 := hx0.tr hx1; have hA1 := hA0.e0 hx1; have a10 : w1.cell? ⟨w.heap.size + 1, 10, none⟩ = some (.int .i64 a.state) := hA1.cell 10; have a2 : w1.cell? ⟨w.heap.size + 1, 2, none⟩ = some (.int .i64 a.ver) := hA1.cell 2))
    go_quiet (fail)
    go_wp2
    go_ret
    exact ⟨by rw [H.out]; rfl, hx2.drewN _⟩
 ·have HJ := Lib.hid (show s.data.jobs.find? (fun j => j.id == a.job) = some x.1 from jobAt_data hf)
  obtain ⟨hi1, hi2⟩ := List.getElem?_eq_some_iff.1 hxi
  obtain ⟨_, b, off, hAe, hce⟩ := hsj.get hx0 (k := i) (by have := hjl.out; omega)
  rw [hi2] at hce
  have hk0 : (0 : Int) ≤ (i : Int) := by omega
  have hk1 : (i : Int) < s.nJ := by have := hjl.out; omega
  have hkg : decide ((0 : Int) ≤ (i : Int)) = true := by simp
  obtain ⟨⟨x0, x1, x2, x3, xg, x5, x6⟩, xv⟩ := x
  have HI := Lib.hid hi
  have HA := Lib.hid hAe
  clear hi hf hi2 hAe hxi hp
  cases h3 : decide (a.state < 3) with
  | true =>
   have H := Lib.hid (show Fsm.keptB s.data.jobs a = true by unfold Fsm.keptB overB; rw [show decide (3 ≤ a.state) = false from by simp at h3 ⊢; omega]; rfl)
   go_wp2_with (first | go_skip | go_guarded | ((with_reducible refine isW ?_); refine wpList_load_blk rfl 30 _ rfl STStore w.heap.size rfl s.arr hB0 rfl ?_) | (go_at_call 51; (with_reducible refine (refAtJob s.AJ s.nJ s.cJ s.jobs a.job W (hsj.ext0 hx0) hnJ _ _ _ _ _ _ _ _).mono ?_); rintro e w1 ⟨rfl, hx1⟩; rw [HI.out]; have hx2 := hx0.tr hx1; have hA1 := hA0.e0 hx1; have a10 : w1.cell? ⟨w.heap.size + 1, 10, none⟩ = some (.int .i64 a.state) := hA1.cell 10; have a2 : w1.cell? ⟨w.heap.size + 1, 2, none⟩ = some (.int .i64 a.ver) := hA1.cell 2; have c2 : w1.cell? ⟨w.heap.size, 2, none⟩ = some (.slice (some ⟨b, off, none⟩) s.nJ s.cJ) := (by rw [← HA.out]; exact (hB0.e0 hx1).cell 2); have k1 : w1.cell? ⟨b, off + i * 7 + 1, none⟩ = some (.int .i64 x1) := hx1.cell (hce 1 _ rfl) (fun e => e); have k5 : w1.cell? ⟨b, off + i * 7 + 5, none⟩ = some (.int .i64 x5) := hx1.cell (hce 5 _ rfl) (fun e => e)))
   go_quiet (fail)
   go_wp2
   go_ret
   exact ⟨by rw [H.out]; rfl, hx2.drewN _⟩
  | false =>
   have ho : overB a = true := by unfold overB; simp at h3 ⊢; omega
   have HO := Lib.hid ho
   clear ho
   cases h4 : (a.state == 3) with
   | false =>
    have H := Lib.hid (show Fsm.keptB s.data.jobs a = false by unfold Fsm.keptB; rw [HO.out, h4]; rfl)
    go_wp2_with (first | go_skip | go_guarded | ((with_reducible refine isW ?_); refine wpList_load_blk rfl 30 _ rfl STStore w.heap.size rfl s.arr hB0 rfl ?_) | (go_at_call 51; (with_reducible refine (refAtJob s.AJ s.nJ s.cJ s.jobs a.job W (hsj.ext0 hx0) hnJ _ _ _ _ _ _ _ _).mono ?_); rintro e w1 ⟨rfl, hx1⟩; rw [HI.out]; have hx2 := hx0.tr hx1; have hA1 := hA0.e0 hx1; have a10 : w1.cell? ⟨w.heap.size + 1, 10, none⟩ = some (.int .i64 a.state) := hA1.cell 10; have a2 : w1.cell? ⟨w.heap.size + 1, 2, none⟩ = some (.int .i64 a.ver) := hA1.cell 2; have c2 : w1.cell? ⟨w.heap.size, 2, none⟩ = some (.slice (some ⟨b, off, none⟩) s.nJ s.cJ) := (by rw [← HA.out]; exact (hB0.e0 hx1).cell 2); have k1 : w1.cell? ⟨b, off + i * 7 + 1, none⟩ = some (.int .i64 x1) := hx1.cell (hce 1 _ rfl) (fun e => e); have k5 : w1.cell? ⟨b, off + i * 7 + 5, none⟩ = some (.int .i64 x5) := hx1.cell (hce 5 _ rfl) (fun e => e)))
    go_quiet (fail)
    go_wp2
    go_ret
    exact ⟨by rw [H.out]; rfl, hx2.drewN _⟩
   | true =>
    cases h5 : (x1 == 2) with
    | false =>
     have H := Lib.hid (show Fsm.keptB s.data.jobs a = false by unfold Fsm.keptB; rw [HO.out, h4, HJ.out]; simp only []; rw [h5]; rfl)
     go_wp2_with (first | go_skip | go_guarded | ((with_reducible refine isW ?_); refine wpList_load_blk rfl 30 _ rfl STStore w.heap.size rfl s.arr hB0 rfl ?_) | (go_at_call 51; (with_reducible refine (refAtJob s.AJ s.nJ s.cJ s.jobs a.job W (hsj.ext0 hx0) hnJ _ _ _ _ _ _ _ _).mono ?_); rintro e w1 ⟨rfl, hx1⟩; rw [HI.out]; have hx2 := hx0.tr hx1; have hA1 := hA0.e0 hx1; have a10 : w1.cell? ⟨w.heap.size + 1, 10, none⟩ = some (.int .i64 a.state) := hA1.cell 10; have a2 : w1.cell? ⟨w.heap.size + 1, 2, none⟩ = some (.int .i64 a.ver) := hA1.cell 2; have c2 : w1.cell? ⟨w.heap.size, 2, none⟩ = some (.slice (some ⟨b, off, none⟩) s.nJ s.cJ) := (by rw [← HA.out]; exact (hB0.e0 hx1).cell 2); have k1 : w1.cell? ⟨b, off + i * 7 + 1, none⟩ = some (.int .i64 x1) := hx1.cell (hce 1 _ rfl) (fun e => e); have k5 : w1.cell? ⟨b, off + i * 7 + 5, none⟩ = some (.int .i64 x5) := hx1.cell (hce 5 _ rfl) (fun e => e)))
     go_quiet (fail)
     go_wp2
     go_ret
     exact ⟨by rw [H.out]; rfl, hx2.drewN _⟩
    | true =>
     cases h6 : (x5 == a.ver) with
     | false =>
      have H := Lib.hid (show Fsm.keptB s.data.jobs a = false by unfold Fsm.keptB; rw [HO.out, h4, HJ.out]; simp only []; rw [h5, h6]; rfl)
      go_wp2_with (first | go_skip | go_guarded | ((with_reducible refine isW ?_); refine wpList_load_blk rfl 30 _ rfl STStore w.heap.size rfl s.arr hB0 rfl ?_) | (go_at_call 51; (with_reducible refine (refAtJob s.AJ s.nJ s.cJ s.jobs a.job W (hsj.ext0 hx0) hnJ _ _ _ _ _ _ _ _).mono ?_); rintro e w1 ⟨rfl, hx1⟩; rw [HI.out]; have hx2 := hx0.tr hx1; have hA1 := hA0.e0 hx1; have a10 : w1.cell? ⟨w.heap.size + 1, 10, none⟩ = some (.int .i64 a.state) := hA1.cell 10; have a2 : w1.cell? ⟨w.heap.size + 1, 2, none⟩ = some (.int .i64 a.ver) := hA1.cell 2; have c2 : w1.cell? ⟨w.heap.size, 2, none⟩ = some (.slice (some ⟨b, off, none⟩) s.nJ s.cJ) := (by rw [← HA.out]; exact (hB0.e0 hx1).cell 2); have k1 : w1.cell? ⟨b, off + i * 7 + 1, none⟩ = some (.int .i64 x1) := hx1.cell (hce 1 _ rfl) (fun e => e); have k5 : w1.cell? ⟨b, off + i * 7 + 5, none⟩ = some (.int .i64 x5) := hx1.cell (hce 5 _ rfl) (fun e => e)))
      go_quiet (fail)
      go_wp2
      go_ret
      exact ⟨by rw [H.out]; rfl, hx2.drewN _⟩
     | true =>
      have H := Lib.hid (show Fsm.keptB s.data.jobs a = true by unfold Fsm.keptB; rw [HO.out, h4, HJ.out]; simp only []; rw [h5, h6]; rfl)
      go_wp2_with (first | go_skip | go_guarded | ((with_reducible refine isW ?_); refine wpList_load_blk rfl 30 _ rfl STStore w.heap.size rfl s.arr hB0 rfl ?_) | (go_at_call 51; (with_reducible refine (refAtJob s.AJ s.nJ s.cJ s.jobs a.job W (hsj.ext0 hx0) hnJ _ _ _ _ _ _ _ _).mono ?_); rintro e w1 ⟨rfl, hx1⟩; rw [HI.out]; have hx2 := hx0.tr hx1; have hA1 := hA0.e0 hx1; have a10 : w1.cell? ⟨w.heap.size + 1, 10, none⟩ = some (.int .i64 a.state) := hA1.cell 10; have a2 : w1.cell? ⟨w.heap.size + 1, 2, none⟩ = some (.int .i64 a.ver) := hA1.cell 2; have c2 : w1.cell? ⟨w.heap.size, 2, none⟩ = some (.slice (some ⟨b, off, none⟩) s.nJ s.cJ) := (by rw [← HA.out]; exact (hB0.e0 hx1).cell 2); have k1 : w1.cell? ⟨b, off + i * 7 + 1, none⟩ = some (.int .i64 x1) := hx1.cell (hce 1 _ rfl) (fun e => e); have k5 : w1.cell? ⟨b, off + i * 7 + 5, none⟩ = some (.int .i64 x5) := hx1.cell (hce 5 _ rfl) (fun e => e)))
      go_quiet (fail)
      go_wp2
      go_ret
      exact ⟨by rw [H.out]; rfl, hx2.drewN _⟩
end
section
open Go.RowKit
set_option maxRecDepth 20000 in
set_option maxHeartbeats 8000000 in
theorem refSameJob2 (a0 a1 a2 a3 b0 b1 b2 b3 v : Int) (st : Bool) (ag bg : List GroupD) (A1 : Option Addr) (n c1 : Nat) (A2 : Option Addr) (m c2 : Nat) (w : World) (h1 : Sl w 3 A1 n (ag.map GroupD.cells)) (h2 : Sl w 3 A2 m (bg.map GroupD.cells)) (hn : n ≤ 1048576) (hm : m ≤ 1048576) :
  Calls Tryz.prog 65 #[.agg #[.int .i64 a0, .int .i64 a1, .int .i64 a2, .int .i64 a3, .slice A1 n c1, .int .i64 v, .bool st], .agg #[.int .i64 b0, .int .i64 b1, .int .i64 b2, .int .i64 b3, .slice A2 m c2, .int .i64 v, .bool st]] w fun e w' => e = .returned (.bool (Fsm.sameJob ⟨a0, a1, a2, a3, ag, v, st⟩ ⟨b0, b1, b2, b3, bg, v, st⟩)) ∧ Ext Nothing w w' := by
 have hx0 : Ext Nothing w ((w.alloc (.cells #[.int .i64 a0, .int .i64 a1, .int .i64 a2, .int .i64 a3, .slice A1 n c1, .int .i64 v, .bool st] 39)).alloc (.cells #[.int .i64 b0, .int .i64 b1, .int .i64 b2, .int .i64 b3, .slice A2 m c2, .int .i64 v, .bool st] 39)) := Ext.auto
 have b1' : Blk ((w.alloc (.cells #[.int .i64 a0, .int .i64 a1, .int .i64 a2, .int .i64 a3, .slice A1 n c1, .int .i64 v, .bool st] 39)).alloc (.cells #[.int .i64 b0, .int .i64 b1, .int .i64 b2, .int .i64 b3, .slice A2 m c2, .int .i64 v, .bool st] 39)) w.heap.size 39 #[.int .i64 a0, .int .i64 a1, .int .i64 a2, .int .i64 a3, .slice A1 n c1, .int .i64 v, .bool st] := (Blk.new w _ _).e0 Ext.auto
 have b2' : Blk ((w.alloc (.cells #[.int .i64 a0, .int .i64 a1, .int .i64 a2, .int .i64 a3, .slice A1 n c1, .int .i64 v, .bool st] 39)).alloc (.cells #[.int .i64 b0, .int .i64 b1, .int .i64 b2, .int .i64 b3, .slice A2 m c2, .int .i64 v, .bool st] 39)) (w.heap.size + 1) 39 #[.int .i64 b0, .int .i64 b1, .int .i64 b2, .int .i64 b3, .slice A2 m c2, .int .i64 v, .bool st] := Blk.new' _ _ _ (by simp)
 have HL1 := Lib.hid h1.len
 have HL2 := Lib.hid h2.len
 by_cases q0 : a0 = b0
 case neg =>
  have e0 : (a0 != b0) = true := by simpa using q0
  have H := Lib.hid (show Fsm.sameJob ⟨a0, a1, a2, a3, ag, v, st⟩ ⟨b0, b1, b2, b3, bg, v, st⟩ = false by unfold Fsm.sameJob; simp [q0])
  go_enter Tryz.func65, Tryz.ntmps65
  go_wp2_with (first | go_skip | go_guarded)
  go_ret
  exact ⟨by rw [H.out]; rfl, hx0⟩
 subst q0
 have e0 : (a0 != a0) = false := by simp
 by_cases q1 : a1 = b1
 case neg =>
  have e1 : (a1 != b1) = true := by simpa using q1
  have H := Lib.hid (show Fsm.sameJob ⟨a0, a1, a2, a3, ag, v, st⟩ ⟨a0, b1, b2, b3, bg, v, st⟩ = false by unfold Fsm.sameJob; simp [q1])
  go_enter Tryz.func65, Tryz.ntmps65
  go_wp2_with (first | go_skip | go_guarded)
  go_ret
  exact ⟨by rw [H.out]; rfl, hx0⟩
 subst q1
 have e1 : (a1 != a1) = false := by simp
 by_cases q2 : a2 = b2
 case neg =>
  have e2 : (a2 != b2) = true := by simpa using q2
  have H := Lib.hid (show Fsm.sameJob ⟨a0, a1, a2, a3, ag, v, st⟩ ⟨a0, a1, b2, b3, bg, v, st⟩ = false by unfold Fsm.sameJob; simp [q2])
  go_enter Tryz.func65, Tryz.ntmps65
  go_wp2_with (first | go_skip | go_guarded)
  go_ret
  exact ⟨by rw [H.out]; rfl, hx0⟩
 subst q2
 have e2 : (a2 != a2) = false := by simp
 by_cases q3 : a3 = b3
 case neg =>
  have e3 : (a3 != b3) = true := by simpa using q3
  have H := Lib.hid (show Fsm.sameJob ⟨a0, a1, a2, a3, ag, v, st⟩ ⟨a0, a1, a2, b3, bg, v, st⟩ = false by unfold Fsm.sameJob; simp [q3])
  go_enter Tryz.func65, Tryz.ntmps65
  go_wp2_with (first | go_skip | go_guarded)
  go_ret
  exact ⟨by rw [H.out]; rfl, hx0⟩
 subst q3
 have e3 : (a3 != a3) = false := by simp
 by_cases q4 : n = m
 case neg =>
  have e4 : ((n : Int) != (m : Int)) = true := by simp; omega
  have H := Lib.hid (show Fsm.sameJob ⟨a0, a1, a2, a3, ag, v, st⟩ ⟨a0, a1, a2, a3, bg, v, st⟩ = false by unfold Fsm.sameJob; rw [show decide (ag = bg) = false from decide_eq_false (fun e => q4 (by rw [HL1.out, HL2.out, e]))]; simp)
  go_enter Tryz.func65, Tryz.ntmps65
  go_wp2_with (first | go_skip | go_guarded)
  go_ret
  exact ⟨by rw [H.out]; rfl, hx0⟩
 have e4 : ((n : Int) != (m : Int)) = false := by simp; omega
 have HS : ∀ b, decide (ag = bg) = b → Fsm.sameJob ⟨a0, a1, a2, a3, ag, v, st⟩ ⟨a0, a1, a2, a3, bg, v, st⟩ = b := fun b hb => by unfold Fsm.sameJob; simp only []; rw [show decide (ag = bg) = b from hb]; simp
 subst q4
 go_enter Tryz.func65, Tryz.ntmps65
 go_upto_region 3 with (first | go_skip | go_guarded)
 generalize ((w.alloc (.cells #[.int .i64 a0, .int .i64 a1, .int .i64 a2, .int .i64 a3, .slice A1 n c1, .int .i64 v, .bool st] 39)).alloc (.cells #[.int .i64 a0, .int .i64 a1, .int .i64 a2, .int .i64 a3, .slice A2 n c2, .int .i64 v, .bool st] 39)) = W at hx0 b1' b2' ⊢
 go_wp2
 go_loopw [5] (fun i wr => ∃ t : Nat, t ≤ n ∧ i = .int .i64 t ∧ ag.take t = bg.take t ∧ Ext Nothing W wr) (fun i _ => n - (intOf i).toNat)
 case atStart => exact ⟨0, Nat.zero_le _, rfl, rfl, Ext.refl _ _⟩
 case round =>
  obtain ⟨t, ht, rfl, hsame, hx⟩ := hrel
  have k1 : wr.cell? ⟨w.heap.size, 4, none⟩ = some (.slice A1 n c1) := (b1'.e0 hx).cell 4
  have k2 : wr.cell? ⟨w.heap.size + 1, 4, none⟩ = some (.slice A2 n c2) := (b2'.e0 hx).cell 4
  by_cases hlt : t < n
  ·have hxw := hx0.tr hx
   obtain ⟨hj1, d1, f1, hA1, hc1⟩ := h1.get hxw hlt
   obtain ⟨hj2, d2, f2, hA2, hc2⟩ := h2.get hxw hlt
   have hnx : ag[t] = bg[t] → ag.take (t + 1) = bg.take (t + 1) := fun e => by rw [List.take_add_one, List.take_add_one, hsame, List.getElem?_eq_getElem hj1, List.getElem?_eq_getElem hj2, e]
   have hbad : ag[t] ≠ bg[t] → Fsm.sameJob ⟨a0, a1, a2, a3, ag, v, st⟩ ⟨a0, a1, a2, a3, bg, v, st⟩ = false := fun e => HS false (decide_eq_false (fun e' => e (by simp [e'])))
   rw [hA1] at k1
   rw [hA2] at k2
   have HA1 := Lib.hid hA1
   have HA2 := Lib.hid hA2
   clear hA1 hA2
   generalize ag[t] = g at hc1 hnx hbad
   generalize bg[t] = g' at hc2 hnx hbad
   obtain ⟨g0, ⟨g1, g2⟩⟩ := g
   obtain ⟨g0', ⟨g1', g2'⟩⟩ := g'
   have r0 : wr.cell? ⟨d1, f1 + t * 3, none⟩ = some (.int .i64 g0) := hc1 0 _ rfl
   have r1 : wr.cell? ⟨d1, f1 + t * 3 + 1, none⟩ = some (.int .i64 g1) := hc1 1 _ rfl
   have r2 : wr.cell? ⟨d1, f1 + t * 3 + 2, none⟩ = some (.int .i64 g2) := hc1 2 _ rfl
   have s0 : wr.cell? ⟨d2, f2 + t * 3, none⟩ = some (.int .i64 g0') := hc2 0 _ rfl
   have s1 : wr.cell? ⟨d2, f2 + t * 3 + 1, none⟩ = some (.int .i64 g1') := hc2 1 _ rfl
   have s2 : wr.cell? ⟨d2, f2 + t * 3 + 2, none⟩ = some (.int .i64 g2') := hc2 2 _ rfl
   have hk0 : (0 : Int) ≤ (t : Int) := by omega
   have hk1 : (t : Int) < n := by omega
   have HNX := Lib.hid hnx
   have HBAD := Lib.hid hbad
   clear hnx hbad hsame HS
   by_cases z0 : g0 = g0'
   ·by_cases z1 : g1 = g1'
    ·by_cases z2 : g2 = g2'
     ·subst z0; subst z1; subst z2
      have HN := Lib.hid (HNX.out rfl)
      go_wp2
      go_quiet (fail)
      go_wp2
      go_roundw
      case rel => exact ⟨t + 1, by omega, by go_num, HN.out, hx.trans (by (with_reducible repeat' first | assumption | exact Ext.refl _ _ | refine Ext.alloc ?_ _ | refine Ext.drew ?_ | refine Ext.drewN ?_ _ | refine xS ?_ (by simp only [World.size_alloc, World.size_setCell, World.size_drew] <;> omega) _ | refine Ext.tr ?_ (by assumption))) (fun _ _ e => e)⟩
      case measure => simp [intOf]; omega
     ·have HB := Lib.hid (HBAD.out (by simp [z2]))
      subst z0; subst z1
      have y2 : (g2 == g2') = false := by simpa using z2
      go_wp2
      go_quiet (fail)
      go_wp2
      go_ret
      exact ⟨by rw [HB.out]; rfl, hxw.drewN _⟩
    ·have HB := Lib.hid (HBAD.out (by simp [z1]))
     subst z0
     have y1 : (g1 == g1') = false := by simpa using z1
     go_wp2
     go_quiet (fail)
     go_wp2
     go_ret
     exact ⟨by rw [HB.out]; rfl, hxw.drewN _⟩
   ·have HB := Lib.hid (HBAD.out (by simp [z0]))
    have y0 : (g0 == g0') = false := by simpa using z0
    go_wp2
    go_quiet (fail)
    go_wp2
    go_ret
    exact ⟨by rw [HB.out]; rfl, hxw.drewN _⟩
  ·have HB := Lib.hid (HS true (decide_eq_true (by rw [List.take_of_length_le (by have := HL1.out; omega), List.take_of_length_le (by have := HL2.out; omega)] at hsame; exact hsame)))
   have hnl : ¬ ((t : Int) < n) := by omega
   clear hsame HS
   go_wp2_with (first | go_skip | go_guarded)
   go_ret
   exact ⟨by rw [HB.out]; rfl, hx0.tr hx⟩
end
section
open Go.RowKit
theorem inv_fenced {s : StoreD} (h : Fsm.Inv s) : s.allocs.any (fencedB s.nodes) = false := by
 rw [List.any_eq_false]
 intro a ha hb
 unfold fencedB at hb
 cases ho : overB a with
 | true => rw [ho] at hb; simp at hb
 | false =>
  have hm : Fsm.core a ∈ Fsm.liveL s.allocs := List.mem_map_of_mem (List.mem_filter.2 ⟨ha, by simp [ho]⟩)
  obtain ⟨n, h1, h2, h3⟩ := h.fenced _ hm
  have h1' : s.nodes.find? (fun n => n.id == a.node) = some n := h1
  have h3' : n.epoch = a.epoch := h3
  rw [ho, h1'] at hb
  simp [h2, h3'] at hb
theorem inv_slots {s : StoreD} (h : Fsm.Inv s) : slotsB s.allocs = true := by
 unfold slotsB heldL
 refine decide_eq_true ?_
 have h1 := h.slots
 unfold Fsm.liveL at h1
 rw [List.map_map] at h1
 exact h1
theorem inv_room {s : StoreD} (h : Fsm.Inv s) : s.nodes.any (roomB s.allocs) = false := by
 rw [List.any_eq_false]
 intro n hn hb
 obtain ⟨r, h1, h2⟩ := h.room n hn
 have h3 : usedS s.allocs n.id = r := by rw [Fsm.usedS_live, h1]; rfl
 unfold roomB at hb
 rw [h3] at hb
 have e1 := h2.1
 have e2 := h2.2
 simp at hb
 omega
end
section
open Go.RowKit
theorem OwnS.ok {base : Nat} {w : World} {s : StoreV} (h : OwnS base w s) (h64 : Fsm.Ok64 s.data) (hJ : s.jobs.length ≤ 1048576) (hS : s.stable.length ≤ 1048576) (hN : s.nodes.length ≤ 1048576) (hA : s.allocs.length ≤ 1048576) (hE : s.evals.length ≤ 1048576) (hD : s.deploys.length ≤ 1048576) (hX : s.seen.length ≤ 1048576) : s.Ok w := by
 have job : ∀ {v : Value} {l : List JobV}, JobsI base w v l → (∀ x ∈ l.map (·.1), x.ok) → ∀ x ∈ l, JobV.ok w x := fun hj ho x hx => by
  obtain ⟨h1, h2, _⟩ := ho x.1 (List.mem_map_of_mem hx)
  obtain ⟨A, n, c, g1, g2, g3, g4⟩ := hj.grp x hx
  exact ⟨h1, A, n, c, g1, Sl.of_own (fun _ => rfl) g2 g3, h2, g4⟩
 refine ⟨h.slJ, job h.j h64.j, by have := h.jl; omega, h.slT, job h.t h64.t, by have := h.tl; omega, h.slN, h64.n, by have := h.nl; omega, h.slA, h64.a, by have := h.al; omega, h.slE, h64.e, by have := h.el; omega, h.slD, h64.d, by have := h.dl; omega, h.slX, fun x hx => ?_, by have := h.xl; omega⟩
 obtain ⟨h1, h2⟩ := h64.x x.1 (List.mem_map_of_mem hx)
 obtain ⟨A, c, h3, h4⟩ := h.xa x hx
 exact ⟨h1, A, 0, c, h3, by rw [h4]; exact Sl.nil _ _ _, by rw [h4]; simp, by omega⟩
end
section
open Go.RowKit
def pendB (x : EvalD) : Bool := x.state == 1
theorem isPend (x : EvalD) (w : World) : Calls Tryz.prog 42 #[.agg (EvalD.cells x).toArray] w fun e w' => e = .returned (.bool (pendB x)) ∧ Ext Nothing w w' := by
 have hx0 : Ext Nothing w (w.alloc (.cells #[.int .i64 x.job, .int .i64 x.prio, .int .i64 x.state, .int .i64 x.index] 76)) := (Ext.refl _ _).alloc _
 show Calls Tryz.prog 42 #[.agg #[.int .i64 x.job, .int .i64 x.prio, .int .i64 x.state, .int .i64 x.index]] w _
 unfold pendB
 go_enter Tryz.func42, Tryz.ntmps42
 go_wp2
 go_ret
 exact ⟨rfl, hx0⟩
set_option maxHeartbeats 1000000 in
theorem ixPend (A : Option Addr) (n cap : Nat) (l : List (EvalD)) (w : World) (hl : Sl w 4 A n (l.map EvalD.cells)) (hn : n ≤ 67108864)  :
  Calls Tryz.prog 67 #[.slice A n cap, .func (.func 42) #[] #[]] w fun e w' => e = .returned (.int .i64 (idxI (pendB) l)) ∧ Ext Nothing w w' := by
 have hlen := Lib.hid hl.len
 go_enter Tryz.func67, Tryz.ntmps67
 go_wp2
 go_loopw [8] (fun i wr => ∃ j : Nat, j ≤ n ∧ i = .int .i64 j ∧ (∀ i < j, ∀ y, l[i]? = some y → (pendB) y = false) ∧ Ext Nothing w wr) (fun i _ => n - (intOf i).toNat)
 case atStart => exact ⟨0, Nat.zero_le _, rfl, fun j hj => absurd hj (by omega), Ext.refl _ _⟩
 case round =>
  obtain ⟨j, hj, rfl, hno, hxx⟩ := hrel
  by_cases hlt : j < n
  ·obtain ⟨hjn, b, off, rfl, hce⟩ := hl.get hxx hlt
   have hy : l[j]? = some l[j] := List.getElem?_eq_getElem hjn
   generalize l[j] = x at hce hy
   have hm : x ∈ l := List.mem_of_getElem? hy
   cases hp : (pendB) x with
   | true =>
    have hr := Lib.hid (idx_hit (p := pendB) hno hy hp)
    have hp' := Lib.hid hp
    clear hno hy hp
    go_wp2_with (first | (refine wpList_load_at rfl 76 _ rfl STEval b (off + j * 4) rfl (EvalD.cells x).toArray (by exact hce) rfl ?_) | (go_at_call 42; refine (isPend x _).mono ?_; rintro e w' ⟨rfl, hx1⟩; rw [hp'.out]))
    go_ret
    exact ⟨by rw [hr.out]; rfl, hxx.tr hx1⟩
   | false =>
    have hno' : ∀ i < j + 1, ∀ y, l[i]? = some y → (pendB) y = false := fun i hi y hy' => by
     by_cases h : i = j
     ·subst h; rw [hy] at hy'; cases hy'; exact hp
     ·exact hno i (by omega) y hy'
    have HN := Lib.hid hno'
    have hp' := Lib.hid hp
    clear hno hno' hy hp
    go_wp2_with (first | (refine wpList_load_at rfl 76 _ rfl STEval b (off + j * 4) rfl (EvalD.cells x).toArray (by exact hce) rfl ?_) | (go_at_call 42; refine (isPend x _).mono ?_; rintro e w' ⟨rfl, hx1⟩; rw [hp'.out]))
    go_roundw
    case rel => exact ⟨j + 1, by omega, by go_num, HN.out, hxx.tr hx1⟩
    case measure => simp [intOf]; omega
  ·have hr := Lib.hid (idx_none (p := pendB) (l := l) (fun i hi y hy => hno i (by have := hlen.out; omega) y hy))
   clear hno
   go_wp2
   go_ret
   exact ⟨by rw [hr.out]; rfl, hxx⟩
theorem ctPend (A : Option Addr) (n cap : Nat) (l : List (EvalD)) (w : World) (hl : Sl w 4 A n (l.map EvalD.cells)) (hn : n ≤ 67108864)  :
  Calls Tryz.prog 41 #[.slice A n cap, .func (.func 42) #[] #[]] w fun e w' => e = .returned (.bool (l.any (pendB))) ∧ Ext Nothing w w' := by
 have hi := ixPend A n cap l w hl hn
 rw [← idx_any (pendB) l]
 generalize idxI (pendB) l = z at hi ⊢
 go_enter Tryz.func41, Tryz.ntmps41
 cases hz : decide (z ≥ 0) with
 | true =>
  have hz' := of_decide_eq_true hz
  go_wp2_with (go_at_call 67; refine hi.mono ?_; rintro e w1 ⟨rfl, hx1⟩)
  go_ret
  exact ⟨rfl, hx1⟩
 | false =>
  have hz' := of_decide_eq_false hz
  go_wp2_with (go_at_call 67; refine hi.mono ?_; rintro e w1 ⟨rfl, hx1⟩)
  go_ret
  exact ⟨rfl, hx1⟩
def emptyV : StoreV := ⟨0, 0, none, 0, 0, [], none, 0, 0, [], none, 0, 0, [], none, 0, 0, [], none, 0, 0, [], none, 0, 0, [], none, 0, 0, []⟩
theorem emptyV_ok (w : World) : emptyV.Ok w := ⟨Sl.nil _ _ _, by simp [emptyV], by decide, Sl.nil _ _ _, by simp [emptyV], by decide, Sl.nil _ _ _, by simp [emptyV], by decide, Sl.nil _ _ _, by simp [emptyV], by decide, Sl.nil _ _ _, by simp [emptyV], by decide, Sl.nil _ _ _, by simp [emptyV], by decide, Sl.nil _ _ _, by simp [emptyV], by decide⟩
theorem ev_len1 (x : EvalD) : (EvalD.cells x).length = 4 := rfl
theorem lRoom (w : World) : Calls Tryz.prog 7 #[.agg #[.int .i64 0, .int .i64 0, .slice none 0 0, .slice none 0 0, .slice none 0 0, .slice none 0 0, .slice none 0 0, .slice none 0 0, .slice none 0 0]] w fun e w' => e = .returned (.bool true) ∧ Ext Nothing w w' := room_any emptyV w (emptyV_ok w)
theorem lSlots (w : World) : Calls Tryz.prog 8 #[.agg #[.int .i64 0, .int .i64 0, .slice none 0 0, .slice none 0 0, .slice none 0 0, .slice none 0 0, .slice none 0 0, .slice none 0 0, .slice none 0 0]] w fun e w' => e = .returned (.bool true) ∧ Ext Nothing w w' := slots_any emptyV w (emptyV_ok w)
theorem lFenced (w : World) : Calls Tryz.prog 9 #[.agg #[.int .i64 0, .int .i64 0, .slice none 0 0, .slice none 0 0, .slice none 0 0, .slice none 0 0, .slice none 0 0, .slice none 0 0, .slice none 0 0]] w fun e w' => e = .returned (.bool true) ∧ Ext Nothing w w' := fenced_any emptyV w (emptyV_ok w)
theorem ixNone (bs : Nat) (w : World) : Calls Tryz.prog 68 #[.slice none 0 0, .func (.func 44) #[] #[.pointer (some ⟨bs, 0, none⟩)]] w fun e w' => e = .returned (.int .i64 (-1)) ∧ Ext Nothing w w' := by
 go_enter Tryz.func68, Tryz.ntmps68
 go_wp2
 go_loopw [8] (fun i wr => i = .int .i64 0 ∧ Ext Nothing w wr) (fun _ _ => 0)
 case atStart => exact ⟨rfl, Ext.refl _ _⟩
 case round =>
  obtain ⟨rfl, hxx⟩ := hrel
  go_wp2
  go_ret
  exact ⟨rfl, hxx⟩
theorem ctNone (bs : Nat) (w : World) : Calls Tryz.prog 43 #[.slice none 0 0, .func (.func 44) #[] #[.pointer (some ⟨bs, 0, none⟩)]] w fun e w' => e = .returned (.bool false) ∧ Ext Nothing w w' := by
 have hi := ixNone bs w
 go_enter Tryz.func43, Tryz.ntmps43
 go_wp2_with (go_at_call 68; refine hi.mono ?_; rintro e w1 ⟨rfl, hx1⟩)
 go_ret
 exact ⟨rfl, hx1⟩
theorem lSettled (w : World) : Calls Tryz.prog 24 #[.agg #[.int .i64 0, .int .i64 0, .slice none 0 0, .slice none 0 0, .slice none 0 0, .slice none 0 0, .slice none 0 0, .slice none 0 0, .slice none 0 0]] w fun e w' => e = .returned (.bool true) ∧ Ext Nothing w w' := by
 have hx0 : Ext Nothing w (w.alloc (.cells #[.int .i64 0, .int .i64 0, .slice none 0 0, .slice none 0 0, .slice none 0 0, .slice none 0 0, .slice none 0 0, .slice none 0 0, .slice none 0 0] 30)) := Ext.auto
 have hb : Blk (w.alloc (.cells #[.int .i64 0, .int .i64 0, .slice none 0 0, .slice none 0 0, .slice none 0 0, .slice none 0 0, .slice none 0 0, .slice none 0 0, .slice none 0 0] 30)) w.heap.size 30 #[.int .i64 0, .int .i64 0, .slice none 0 0, .slice none 0 0, .slice none 0 0, .slice none 0 0, .slice none 0 0, .slice none 0 0, .slice none 0 0] := Blk.new _ _ _
 go_enter Tryz.func24, Tryz.ntmps24
 go_wp2_with (first | (go_at_call 41; refine (ctPend none 0 0 [] _ (Sl.nil _ _ _) (by omega)).mono ?_; rintro e w1 ⟨rfl, hx1⟩; rw [show ([] : List EvalD).any pendB = false from rfl]; have k2 : w1.cell? ⟨w.heap.size, 2, none⟩ = some (.slice none 0 0) := (hb.e0 hx1).cell 2) | (go_at_call 43; refine (ctNone w.heap.size _).mono ?_; rintro e w2 ⟨rfl, hx2⟩))
 go_ret
 exact ⟨rfl, (hx0.tr hx1).tr hx2⟩
theorem lUnsettled (w : World) (A : Option Addr) (h : Sl w 4 A 1 ([(⟨1, 0, 1, 0⟩ : EvalD)].map EvalD.cells)) : Calls Tryz.prog 24 #[.agg #[.int .i64 0, .int .i64 0, .slice none 0 0, .slice none 0 0, .slice none 0 0, .slice none 0 0, .slice A 1 1, .slice none 0 0, .slice none 0 0]] w fun e w' => e = .returned (.bool false) ∧ Ext Nothing w w' := by
 have hx0 : Ext Nothing w (w.alloc (.cells #[.int .i64 0, .int .i64 0, .slice none 0 0, .slice none 0 0, .slice none 0 0, .slice none 0 0, .slice A 1 1, .slice none 0 0, .slice none 0 0] 30)) := Ext.auto
 have h1 := h.ext0 hx0
 go_enter Tryz.func24, Tryz.ntmps24
 go_wp2_with (first | (go_at_call 41; refine (ctPend A 1 1 [⟨1, 0, 1, 0⟩] _ h1 (by omega)).mono ?_; rintro e w1 ⟨rfl, hx1⟩; rw [show ([(⟨1, 0, 1, 0⟩ : EvalD)]).any pendB = true from rfl]))
 go_ret
 exact ⟨rfl, hx0.tr hx1⟩
theorem lAlone (w : World) : Calls Tryz.prog 25 #[.pointer none] w fun e w' => e = .returned (.bool true) ∧ Ext Nothing w w' := by
 go_enter Tryz.func25, Tryz.ntmps25
 go_wp2
 go_ret
 exact ⟨rfl, Ext.refl _ _⟩
set_option maxRecDepth 100000 in
set_option maxHeartbeats 4000000 in
theorem lives21 (w : World) : Calls Tryz.prog 10 #[] w fun e w' => e = .returned (.bool true) ∧ Ext Nothing w w' := by
 have hx0 : Ext Nothing w (((w.alloc (.cells #[.int .i64 0, .int .i64 0, .slice none 0 0, .slice none 0 0, .slice none 0 0, .slice none 0 0, .slice none 0 0, .slice none 0 0, .slice none 0 0] 30)).alloc (.cells #[.int .i64 1, .int .i64 0, .int .i64 1, .int .i64 0] 76)).alloc (.cells #[.int .i64 0, .int .i64 0, .slice none 0 0, .slice none 0 0, .slice none 0 0, .slice none 0 0, .slice (some ⟨w.heap.size + 1, 0, none⟩) 1 1, .slice none 0 0, .slice none 0 0] 30)) := Ext.auto
 have bz : Blk (((w.alloc (.cells #[.int .i64 0, .int .i64 0, .slice none 0 0, .slice none 0 0, .slice none 0 0, .slice none 0 0, .slice none 0 0, .slice none 0 0, .slice none 0 0] 30)).alloc (.cells #[.int .i64 1, .int .i64 0, .int .i64 1, .int .i64 0] 76)).alloc (.cells #[.int .i64 0, .int .i64 0, .slice none 0 0, .slice none 0 0, .slice none 0 0, .slice none 0 0, .slice (some ⟨w.heap.size + 1, 0, none⟩) 1 1, .slice none 0 0, .slice none 0 0] 30)) w.heap.size 30 #[.int .i64 0, .int .i64 0, .slice none 0 0, .slice none 0 0, .slice none 0 0, .slice none 0 0, .slice none 0 0, .slice none 0 0, .slice none 0 0] := (Blk.new w _ _).e0 Ext.auto
 have be : Blk (((w.alloc (.cells #[.int .i64 0, .int .i64 0, .slice none 0 0, .slice none 0 0, .slice none 0 0, .slice none 0 0, .slice none 0 0, .slice none 0 0, .slice none 0 0] 30)).alloc (.cells #[.int .i64 1, .int .i64 0, .int .i64 1, .int .i64 0] 76)).alloc (.cells #[.int .i64 0, .int .i64 0, .slice none 0 0, .slice none 0 0, .slice none 0 0, .slice none 0 0, .slice (some ⟨w.heap.size + 1, 0, none⟩) 1 1, .slice none 0 0, .slice none 0 0] 30)) (w.heap.size + 1) 76 #[.int .i64 1, .int .i64 0, .int .i64 1, .int .i64 0] := (Blk.new' (w.alloc (.cells #[.int .i64 0, .int .i64 0, .slice none 0 0, .slice none 0 0, .slice none 0 0, .slice none 0 0, .slice none 0 0, .slice none 0 0, .slice none 0 0] 30)) _ _ (n := w.heap.size + 1) (by simp)).e0 Ext.auto
 have bt : Blk (((w.alloc (.cells #[.int .i64 0, .int .i64 0, .slice none 0 0, .slice none 0 0, .slice none 0 0, .slice none 0 0, .slice none 0 0, .slice none 0 0, .slice none 0 0] 30)).alloc (.cells #[.int .i64 1, .int .i64 0, .int .i64 1, .int .i64 0] 76)).alloc (.cells #[.int .i64 0, .int .i64 0, .slice none 0 0, .slice none 0 0, .slice none 0 0, .slice none 0 0, .slice (some ⟨w.heap.size + 1, 0, none⟩) 1 1, .slice none 0 0, .slice none 0 0] 30)) (w.heap.size + 1 + 1) 30 #[.int .i64 0, .int .i64 0, .slice none 0 0, .slice none 0 0, .slice none 0 0, .slice none 0 0, .slice (some ⟨w.heap.size + 1, 0, none⟩) 1 1, .slice none 0 0, .slice none 0 0] := Blk.new' _ _ _ (by simp)
 have hE : Sl (((w.alloc (.cells #[.int .i64 0, .int .i64 0, .slice none 0 0, .slice none 0 0, .slice none 0 0, .slice none 0 0, .slice none 0 0, .slice none 0 0, .slice none 0 0] 30)).alloc (.cells #[.int .i64 1, .int .i64 0, .int .i64 1, .int .i64 0] 76)).alloc (.cells #[.int .i64 0, .int .i64 0, .slice none 0 0, .slice none 0 0, .slice none 0 0, .slice none 0 0, .slice (some ⟨w.heap.size + 1, 0, none⟩) 1 1, .slice none 0 0, .slice none 0 0] 30)) 4 (some ⟨w.heap.size + 1, 0, none⟩) 1 ([(⟨1, 0, 1, 0⟩ : EvalD)].map EvalD.cells) := Sl.of_blk _ ev_len1 be rfl rfl
 go_enter Tryz.func10, Tryz.ntmps10
 go_wp2_with (first | (go_at_call 7; (with_reducible refine (lRoom _).mono ?_); rintro e w1 ⟨rfl, hx1⟩; have y1 : Ext Nothing (((w.alloc (.cells #[.int .i64 0, .int .i64 0, .slice none 0 0, .slice none 0 0, .slice none 0 0, .slice none 0 0, .slice none 0 0, .slice none 0 0, .slice none 0 0] 30)).alloc (.cells #[.int .i64 1, .int .i64 0, .int .i64 1, .int .i64 0] 76)).alloc (.cells #[.int .i64 0, .int .i64 0, .slice none 0 0, .slice none 0 0, .slice none 0 0, .slice none 0 0, .slice (some ⟨w.heap.size + 1, 0, none⟩) 1 1, .slice none 0 0, .slice none 0 0] 30)) w1 := hx1; have bz1 := bz.e0 y1; have z1_0 : w1.cell? ⟨w.heap.size, 0, none⟩ = some (.int .i64 0) := bz1.cell 0; have z1_1 : w1.cell? ⟨w.heap.size, 1, none⟩ = some (.int .i64 0) := bz1.cell 1; have z1_2 : w1.cell? ⟨w.heap.size, 2, none⟩ = some (.slice none 0 0) := bz1.cell 2; have z1_3 : w1.cell? ⟨w.heap.size, 3, none⟩ = some (.slice none 0 0) := bz1.cell 3; have z1_4 : w1.cell? ⟨w.heap.size, 4, none⟩ = some (.slice none 0 0) := bz1.cell 4; have z1_5 : w1.cell? ⟨w.heap.size, 5, none⟩ = some (.slice none 0 0) := bz1.cell 5; have z1_6 : w1.cell? ⟨w.heap.size, 6, none⟩ = some (.slice none 0 0) := bz1.cell 6; have z1_7 : w1.cell? ⟨w.heap.size, 7, none⟩ = some (.slice none 0 0) := bz1.cell 7; have z1_8 : w1.cell? ⟨w.heap.size, 8, none⟩ = some (.slice none 0 0) := bz1.cell 8) | (go_at_call 8; (with_reducible refine (lSlots _).mono ?_); rintro e w2 ⟨rfl, hx2⟩; have y2 : Ext Nothing (((w.alloc (.cells #[.int .i64 0, .int .i64 0, .slice none 0 0, .slice none 0 0, .slice none 0 0, .slice none 0 0, .slice none 0 0, .slice none 0 0, .slice none 0 0] 30)).alloc (.cells #[.int .i64 1, .int .i64 0, .int .i64 1, .int .i64 0] 76)).alloc (.cells #[.int .i64 0, .int .i64 0, .slice none 0 0, .slice none 0 0, .slice none 0 0, .slice none 0 0, .slice (some ⟨w.heap.size + 1, 0, none⟩) 1 1, .slice none 0 0, .slice none 0 0] 30)) w2 := y1.tr hx2; have bz2 := bz.e0 y2; have z2_0 : w2.cell? ⟨w.heap.size, 0, none⟩ = some (.int .i64 0) := bz2.cell 0; have z2_1 : w2.cell? ⟨w.heap.size, 1, none⟩ = some (.int .i64 0) := bz2.cell 1; have z2_2 : w2.cell? ⟨w.heap.size, 2, none⟩ = some (.slice none 0 0) := bz2.cell 2; have z2_3 : w2.cell? ⟨w.heap.size, 3, none⟩ = some (.slice none 0 0) := bz2.cell 3; have z2_4 : w2.cell? ⟨w.heap.size, 4, none⟩ = some (.slice none 0 0) := bz2.cell 4; have z2_5 : w2.cell? ⟨w.heap.size, 5, none⟩ = some (.slice none 0 0) := bz2.cell 5; have z2_6 : w2.cell? ⟨w.heap.size, 6, none⟩ = some (.slice none 0 0) := bz2.cell 6; have z2_7 : w2.cell? ⟨w.heap.size, 7, none⟩ = some (.slice none 0 0) := bz2.cell 7; have z2_8 : w2.cell? ⟨w.heap.size, 8, none⟩ = some (.slice none 0 0) := bz2.cell 8) | (go_at_call 9; (with_reducible refine (lFenced _).mono ?_); rintro e w3 ⟨rfl, hx3⟩; have y3 : Ext Nothing (((w.alloc (.cells #[.int .i64 0, .int .i64 0, .slice none 0 0, .slice none 0 0, .slice none 0 0, .slice none 0 0, .slice none 0 0, .slice none 0 0, .slice none 0 0] 30)).alloc (.cells #[.int .i64 1, .int .i64 0, .int .i64 1, .int .i64 0] 76)).alloc (.cells #[.int .i64 0, .int .i64 0, .slice none 0 0, .slice none 0 0, .slice none 0 0, .slice none 0 0, .slice (some ⟨w.heap.size + 1, 0, none⟩) 1 1, .slice none 0 0, .slice none 0 0] 30)) w3 := y2.tr hx3; have bz3 := bz.e0 y3; have z3_0 : w3.cell? ⟨w.heap.size, 0, none⟩ = some (.int .i64 0) := bz3.cell 0; have z3_1 : w3.cell? ⟨w.heap.size, 1, none⟩ = some (.int .i64 0) := bz3.cell 1; have z3_2 : w3.cell? ⟨w.heap.size, 2, none⟩ = some (.slice none 0 0) := bz3.cell 2; have z3_3 : w3.cell? ⟨w.heap.size, 3, none⟩ = some (.slice none 0 0) := bz3.cell 3; have z3_4 : w3.cell? ⟨w.heap.size, 4, none⟩ = some (.slice none 0 0) := bz3.cell 4; have z3_5 : w3.cell? ⟨w.heap.size, 5, none⟩ = some (.slice none 0 0) := bz3.cell 5; have z3_6 : w3.cell? ⟨w.heap.size, 6, none⟩ = some (.slice none 0 0) := bz3.cell 6; have z3_7 : w3.cell? ⟨w.heap.size, 7, none⟩ = some (.slice none 0 0) := bz3.cell 7; have z3_8 : w3.cell? ⟨w.heap.size, 8, none⟩ = some (.slice none 0 0) := bz3.cell 8) | (go_at_call 24; (with_reducible refine (lSettled _).mono ?_); rintro e w4 ⟨rfl, hx4⟩; have y4 : Ext Nothing (((w.alloc (.cells #[.int .i64 0, .int .i64 0, .slice none 0 0, .slice none 0 0, .slice none 0 0, .slice none 0 0, .slice none 0 0, .slice none 0 0, .slice none 0 0] 30)).alloc (.cells #[.int .i64 1, .int .i64 0, .int .i64 1, .int .i64 0] 76)).alloc (.cells #[.int .i64 0, .int .i64 0, .slice none 0 0, .slice none 0 0, .slice none 0 0, .slice none 0 0, .slice (some ⟨w.heap.size + 1, 0, none⟩) 1 1, .slice none 0 0, .slice none 0 0] 30)) w4 := y3.tr hx4; have bt4 := bt.e0 y4; have t4_0 : w4.cell? ⟨w.heap.size + 1 + 1, 0, none⟩ = some (.int .i64 0) := bt4.cell 0; have t4_1 : w4.cell? ⟨w.heap.size + 1 + 1, 1, none⟩ = some (.int .i64 0) := bt4.cell 1; have t4_2 : w4.cell? ⟨w.heap.size + 1 + 1, 2, none⟩ = some (.slice none 0 0) := bt4.cell 2; have t4_3 : w4.cell? ⟨w.heap.size + 1 + 1, 3, none⟩ = some (.slice none 0 0) := bt4.cell 3; have t4_4 : w4.cell? ⟨w.heap.size + 1 + 1, 4, none⟩ = some (.slice none 0 0) := bt4.cell 4; have t4_5 : w4.cell? ⟨w.heap.size + 1 + 1, 5, none⟩ = some (.slice none 0 0) := bt4.cell 5; have t4_6 : w4.cell? ⟨w.heap.size + 1 + 1, 6, none⟩ = some (.slice (some ⟨w.heap.size + 1, 0, none⟩) 1 1) := bt4.cell 6; have t4_7 : w4.cell? ⟨w.heap.size + 1 + 1, 7, none⟩ = some (.slice none 0 0) := bt4.cell 7; have t4_8 : w4.cell? ⟨w.heap.size + 1 + 1, 8, none⟩ = some (.slice none 0 0) := bt4.cell 8) | (go_at_call 24; (with_reducible refine (lUnsettled _ _ (hE.ext0 y4)).mono ?_); rintro e w5 ⟨rfl, hx5⟩; have y5 := y4.tr hx5) | (go_at_call 25; refine (lAlone _).mono ?_; rintro e w6 ⟨rfl, hx6⟩; have y6 := y5.tr hx6))
 go_ret
 exact ⟨rfl, hx0.tr y6⟩
end
section
open Go.RowKit
theorem idx_ge {α : Type} (p : α → Bool) (l : List α) : decide (0 ≤ idxI p l) = l.any p := by
 rcases idx_cases p l with ⟨h, _, hno⟩ | ⟨i, x, h, hx, hp, _, _⟩
 ·rw [h]
  have : l.any p = false := by rw [List.any_eq_false]; intro y hy; simp [hno y hy]
  rw [this]; rfl
 ·rw [h, List.any_eq_true.2 ⟨x, List.mem_of_getElem? hx, hp⟩]
  simp
theorem parts_slots {s : StoreD} (h : Fsm.Inv s) {a : AllocD} (ha : overB a = false) : slotsB (s.allocs ++ [a]) = !decide (0 ≤ idxI (slotB a.job a.group a.index) s.allocs) := by
 rw [idx_ge]
 have h0 : (heldL s.allocs).Nodup := of_decide_eq_true (inv_slots h)
 have e : heldL (s.allocs ++ [a]) = heldL s.allocs ++ [slotK a] := by
  unfold heldL
  rw [List.filter_append, List.filter_cons_of_pos (by simp [ha]), List.filter_nil, List.map_append]; rfl
 have hm : slotK a ∈ heldL s.allocs ↔ s.allocs.any (slotB a.job a.group a.index) = true := by
  unfold heldL
  rw [List.mem_map, List.any_eq_true]
  constructor
  ·rintro ⟨x, hx, hk⟩
   obtain ⟨hx1, hx2⟩ := List.mem_filter.1 hx
   unfold slotK at hk
   injection hk with k1 k2
   injection k2 with k2 k3
   exact ⟨x, hx1, by unfold slotB; simp [k1, k2, k3]; simpa using hx2⟩
  ·rintro ⟨x, hx, hk⟩
   unfold slotB at hk
   simp at hk
   exact ⟨x, List.mem_filter.2 ⟨hx, by simp [hk.2]⟩, by unfold slotK; rw [hk.1.1.1, hk.1.1.2, hk.1.2]⟩
 unfold slotsB
 rw [e]
 cases hb : s.allocs.any (slotB a.job a.group a.index) with
 | true =>
  have := hm.2 hb
  exact decide_eq_false (fun hn => by
   rw [List.nodup_append] at hn
   exact hn.2.2 _ this _ (List.mem_singleton.2 rfl) rfl)
 | false =>
  refine decide_eq_true ?_
  rw [List.nodup_append]
  refine ⟨h0, by simp, fun x hx y hy => ?_⟩
  rw [List.mem_singleton.1 hy]
  rintro rfl
  rw [hm.1 hx] at hb
  cases hb
theorem parts_fenced {s : StoreD} (h : Fsm.Inv s) {a : AllocD} (ha : overB a = false) : (!((s.allocs ++ [a]).any (fencedB s.nodes))) = (match s.nodes.find? (fun n => n.id == a.node) with | none => false | some n => n.up && n.epoch == a.epoch) := by
 rw [List.any_append, inv_fenced h]
 simp only [List.any_cons, List.any_nil, Bool.or_false, Bool.false_or]
 unfold fencedB
 rw [ha]
 cases s.nodes.find? (fun n => n.id == a.node) with
 | none => rfl
 | some n => simp
theorem nodup_id {l : List NodD} (h : (l.map NodD.id).Nodup) {m n : NodD} (hm : m ∈ l) (hn : n ∈ l) (e : m.id = n.id) : m = n := by
 induction l with
 | nil => cases hm
 | cons x r ih =>
  rw [List.map_cons, List.nodup_cons] at h
  rcases List.mem_cons.1 hm with hm1 | hm1
  ·rcases List.mem_cons.1 hn with hn1 | hn1
   ·rw [hm1, hn1]
   ·exact absurd (List.mem_map.2 ⟨n, hn1, by rw [← e, hm1]⟩) h.1
  ·rcases List.mem_cons.1 hn with hn1 | hn1
   ·exact absurd (List.mem_map.2 ⟨m, hm1, by rw [e, hn1]⟩) h.1
   ·exact ih h.2 hm1 hn1
theorem used_other {l : List AllocD} {a : AllocD} {x : Int} (h : (a.node == x) = false) : usedS (l ++ [a]) x = usedS l x := by
 unfold usedS
 rw [List.foldl_append, List.foldl_cons, List.foldl_nil]
 have : ∀ o, useStep x o a = o := fun o => by cases o <;> simp [useStep, h]
 rw [this]
theorem parts_room {s : StoreD} (h : Fsm.Inv s) {a : AllocD} : (!(s.nodes.any (roomB (s.allocs ++ [a])))) = (match s.nodes.find? (fun n => n.id == a.node) with | none => true | some n => decide ((usedS (s.allocs ++ [a]) a.node).cpu ≤ n.cap.cpu) && decide ((usedS (s.allocs ++ [a]) a.node).mem ≤ n.cap.mem)) := by
 have other : ∀ n ∈ s.nodes, (a.node == n.id) = false → roomB (s.allocs ++ [a]) n = false := fun n hn he => by
  have h1 := List.any_eq_false.1 (inv_room h) n hn
  unfold roomB at h1 ⊢
  rw [used_other he]
  simpa using h1
 cases hf : s.nodes.find? (fun n => n.id == a.node) with
 | none =>
  have : s.nodes.any (roomB (s.allocs ++ [a])) = false := by
   rw [List.any_eq_false]
   intro n hn hb
   have := List.find?_eq_none.1 hf n hn
   rw [other n hn (by simp at this ⊢; exact fun e => this e.symm)] at hb
   cases hb
  rw [this]; rfl
 | some n =>
  have hn := List.mem_of_find?_eq_some hf
  have hid : n.id = a.node := by have := List.find?_some hf; simpa using this
  have e : s.nodes.any (roomB (s.allocs ++ [a])) = roomB (s.allocs ++ [a]) n := by
   cases hb : roomB (s.allocs ++ [a]) n with
   | true => exact List.any_eq_true.2 ⟨n, hn, hb⟩
   | false =>
    rw [List.any_eq_false]
    intro m hm hmb
    by_cases hmi : a.node = m.id
    ·have : m = n := nodup_id h.nd hm hn (by rw [← hmi, hid])
     rw [this, hb] at hmb; cases hmb
    ·rw [other m hm (by simpa using hmi)] at hmb; cases hmb
  rw [e]
  unfold roomB
  rw [hid]
  simp only [Bool.not_or]
  congr 1
  ·rw [Bool.eq_iff_iff]; simp
  ·rw [Bool.eq_iff_iff]; simp
end
end Go.Proofs.YtlpfcmnnmdhaoaaGreat
