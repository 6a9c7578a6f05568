/- Parts of the proof: RefReg -/
import Derived.Test.YtlpfcmnnmdhaoaaGreatQ22
import Derived.Test.YtlpfcmnnmdhaoaaGreatQ14
namespace Go.Proofs.YtlpfcmnnmdhaoaaGreat
set_option linter.unusedVariables false
set_option linter.unusedSimpArgs false
set_option linter.unusedSectionVars false
open Go.RowKit
set_option maxRecDepth 20000 in
set_option maxHeartbeats 16000000 in
theorem refRegister (base : Nat) (s : StoreV) (c : CmdV) (w : World) (h : OwnS base w s) (hc : CmdI base w c) (hb : base ≤ w.heap.size) (hJ : s.jobs.length ≤ 1048576) (hN : s.nodes.length ≤ 1048575) (hA : s.allocs.length ≤ 1048576) (hE : s.evals.length ≤ 16777216) :
  Calls Tryz.prog 30 #[.agg s.arr, .agg c.arr] w fun e w' => ∃ s' r, e = .returned (.tuple #[.agg s'.arr, .agg (resArr r.code r.value)]) ∧ OwnS base w' s' ∧ Fsm.register s.data c.d = (s'.data, r) ∧ r.allocs = [] ∧ Ext (RowB base w) w w' := by
 obtain ⟨hxW, hBW, hCW, hRW, hEW⟩ := enterW w s.arr c.arr #[.int .i64 0, .int .i64 0, .slice none 0 0, .slice none 0 0, .slice none 0 0, .slice none 0 0, .slice none 0 0, .slice none 0 0, .slice none 0 0] #[.int .i64 0, .int .i64 0, .slice none 0 0]
 have hel := Lib.hid h.nl
 have hnN : s.nN ≤ 67108864 := by have := h.nl; omega
 cases hok : Fsm.nodeOk c.node with
 | false =>
  have HF := Lib.hid (show Fsm.register s.data c.d = (s.data, ⟨31, 0, []⟩) by unfold Fsm.register; rw [show Fsm.nodeOk c.d.node = false from hok]; rfl)
  have HER := Lib.hid (show nodeErr c.node = 31 from nodeErr_no hok)
  clear hok
  go_enter Tryz.func30, Tryz.ntmps30
  go_upto_region 1 with fail
  generalize ((((w.alloc (.cells s.arr 30)).alloc (.cells c.arr 51)).alloc (.cells #[.int .i64 0, .int .i64 0, .slice none 0 0, .slice none 0 0, .slice none 0 0, .slice none 0 0, .slice none 0 0, .slice none 0 0, .slice none 0 0] 30)).alloc (.cells #[.int .i64 0, .int .i64 0, .slice none 0 0] 34)) = W at hxW hBW hCW hRW hEW ⊢
  have hzW : w.heap.size + 1 + 1 + 1 < W.heap.size := hEW.lt
  have hcn : ∀ j u, c.narr.toList[j]? = some u → W.cell? ⟨w.heap.size + 1, 10 + j, none⟩ = some u := fun j u hu => by rw [hCW.cell]; exact c.ncell j u hu
  go_upto_region 3 with (first | go_skip | ((with_reducible refine isW ?_); refine wpList_load_at rfl 43 _ rfl STNode (w.heap.size + 1) 10 rfl c.narr hcn rfl ?_) | (go_at_call 55; (with_reducible refine (ref06Node c.node W).mono ?_); rintro e w1 ⟨rfl, hx1⟩; (rw [HER.out])))
  have hBa := hBW.e0 hx1
  have hRa := hRW.e0 hx1
  have hEa := hEW.e0 hx1
  have hxa := hxW.tr hx1
  refine zH (S := fun q => q = (w.heap.size + 1 + 1) ∨ q = (w.heap.size + 1 + 1 + 1)) (by kernel_rfl) (fun Wd hd hd0 => ?_)
  refine zT 0 (.agg s.arr) rfl (by kernel_rfl) (by rfl) hd (fun _ _ _ h => h) ?_ ?_
  ·intro W' hS'
   exact run_load_blk rfl STStore (by go_simp) (hBa.ext hS' (by omega)) rfl
  refine zT 1 (.int .i64 31) rfl (by kernel_rfl) (by rfl) hd (fun _ _ _ h => h) ?_ ?_
  ·intro W' hS'
   go_simp
  simp only [Act.put, zA, zB, zC, zD, zE, zF]
  refine zO 2 (by kernel_rfl) ?_
  refine wpOp_call (f := 16) (args := #[.int .i64 31]) rfl (by rfl) (by go_simp) ((refNo 31 Wd).mono ?_)
  rintro e wn ⟨rfl, hxn⟩
  have hd1 := hd.trans hxn (fun _ _ e => e.elim)
  have hd01 := hd0.tr hxn
  refine ⟨_, rfl, hd1, ?_⟩
  simp only [Act.put, zA, zB, zC, zD, zE, zF]
  refine zO 3 (by kernel_rfl) ?_
  refine wpOp_store (p := (w.heap.size + 1 + 1)) (cs := s.arr) rfl (by rfl) rfl (by go_simp) (by go_simp) (hRa.e0 hd01) rfl STStore rfl rfl (fun w2 hR2 hx2 => ?_)
  have hd2 := hd1.trans hx2 (fun q hq e => .inl e)
  refine ⟨hd2, ?_⟩
  simp only [Act.put, zA, zB, zC, zD, zE, zF]
  refine zO 4 (by kernel_rfl) ?_
  refine wpOp_store (p := (w.heap.size + 1 + 1 + 1)) (cs := resArr 31 0) rfl (by rfl) rfl (by go_simp) (by go_simp) ((hEa.e0 hd01).ext hx2 (fun e => absurd (show (w.heap.size + 1 + 1 + 1) = (w.heap.size + 1 + 1) from e) (by omega))) rfl STResult rfl rfl (fun w3 hE3 hx3' => ?_)
  have hx3 := hd2.trans hx3' (fun q hq e => .inr e)
  have hR3 := hR2.ext hx3' (fun e => absurd (show (w.heap.size + 1 + 1) = (w.heap.size + 1 + 1 + 1) from e) (by omega))
  refine ⟨hx3, wpAnyH_done (by kernel_rfl) ?_ _⟩
  simp only [Act.put, zA, zB, zC, zD, zE, zF]
  go_wp2
  have hxx : Ext Nothing w w3 := hxa.trans hx3 (fun b hb e => by omega)
  exact bodyPost_ret (results_cell2 rfl STStore STResult rfl rfl hR3 rfl hE3 rfl) rfl ⟨s, ⟨31, 0, []⟩, rfl, h.keep0 hxx, HF.out, rfl, hxx.mono (fun _ _ e => e.elim)⟩
 | true =>
  have HER := Lib.hid (show nodeErr c.node = 0 from nodeErr_ok hok)
  have HOK := Lib.hid hok
  clear hok
  go_enter Tryz.func30, Tryz.ntmps30
  go_upto_region 1 with fail
  generalize ((((w.alloc (.cells s.arr 30)).alloc (.cells c.arr 51)).alloc (.cells #[.int .i64 0, .int .i64 0, .slice none 0 0, .slice none 0 0, .slice none 0 0, .slice none 0 0, .slice none 0 0, .slice none 0 0, .slice none 0 0] 30)).alloc (.cells #[.int .i64 0, .int .i64 0, .slice none 0 0] 34)) = W at hxW hBW hCW hRW hEW ⊢
  have hzW : w.heap.size + 1 + 1 + 1 < W.heap.size := hEW.lt
  have hcn : ∀ j u, c.narr.toList[j]? = some u → W.cell? ⟨w.heap.size + 1, 10 + j, none⟩ = some u := fun j u hu => by rw [hCW.cell]; exact c.ncell j u hu
  go_upto_region 5 with (first | go_skip | ((with_reducible refine isW ?_); refine wpList_load_at rfl 43 _ rfl STNode (w.heap.size + 1) 10 rfl c.narr hcn rfl ?_) | (go_at_call 55; (with_reducible refine (ref06Node c.node W).mono ?_); rintro e w1 ⟨rfl, hx1⟩; (rw [HER.out]); have hC1 := hCW.e0 hx1; have q10 : w1.cell? ⟨w.heap.size + 1, 10, none⟩ = some (.int .i64 c.node.id) := hC1.cell 10; have q11 : w1.cell? ⟨w.heap.size + 1, 11, none⟩ = some (.int .i64 c.node.cap.cpu) := hC1.cell 11; have q12 : w1.cell? ⟨w.heap.size + 1, 12, none⟩ = some (.int .i64 c.node.cap.mem) := hC1.cell 12; have q15 : w1.cell? ⟨w.heap.size + 1, 15, none⟩ = some (.int .i64 c.node.boot) := hC1.cell 15))
  have hJ0 : Blk (w1.alloc (.cells #[.int .i64 c.node.id, .int .i64 c.node.cap.cpu, .int .i64 c.node.cap.mem, .bool true, .bool false, .int .i64 c.node.boot, .int .i64 1, .int .i64 0] 43)) w1.heap.size 43 #[.int .i64 c.node.id, .int .i64 c.node.cap.cpu, .int .i64 c.node.cap.mem, .bool true, .bool false, .int .i64 c.node.boot, .int .i64 1, .int .i64 0] := Blk.new _ _ _
  have hxj1 : Ext Nothing w1 (w1.alloc (.cells #[.int .i64 c.node.id, .int .i64 c.node.cap.cpu, .int .i64 c.node.cap.mem, .bool true, .bool false, .int .i64 c.node.boot, .int .i64 1, .int .i64 0] 43)) := Ext.auto
  have hxj : Ext Nothing w (w1.alloc (.cells #[.int .i64 c.node.id, .int .i64 c.node.cap.cpu, .int .i64 c.node.cap.mem, .bool true, .bool false, .int .i64 c.node.boot, .int .i64 1, .int .i64 0] 43)) := (hxW.tr hx1).tr hxj1
  have hBj := (hBW.e0 hx1).e0 hxj1
  have hRj := (hRW.e0 hx1).e0 hxj1
  have hEj := (hEW.e0 hx1).e0 hxj1
  have hz1 : w.heap.size + 1 + 1 + 1 < w1.heap.size := (hEW.e0 hx1).lt
  clear hcn q10 q11 q12 q15 hBW hRW hEW hCW hC1
  generalize w1.heap.size = J at hJ0 hz1 ⊢
  generalize (w1.alloc (.cells #[.int .i64 c.node.id, .int .i64 c.node.cap.cpu, .int .i64 c.node.cap.mem, .bool true, .bool false, .int .i64 c.node.boot, .int .i64 1, .int .i64 0] 43)) = wj at hJ0 hxj hBj hRj hEj ⊢
  clear hxW hx1 hxj1 hzW
  have j0 : wj.cell? ⟨J, 0, none⟩ = some (.int .i64 c.node.id) := hJ0.cell 0
  have hsn := (h.keep0 hxj).slN
  rcases idx_cases (fun x : NodD => x.id == c.node.id) s.nodes with ⟨hi, hf, _⟩ | ⟨i, x, hi, hxi, hp, hf, _⟩
  ·have HFR := Lib.hid (show Fsm.register s.data c.d = (Fsm.joins s.data ⟨c.node.id, ⟨c.node.cap.cpu, c.node.cap.mem⟩, true, false, c.node.boot, 1, 0⟩, ⟨0, 1, []⟩) by
    unfold Fsm.register; rw [show Fsm.nodeOk c.d.node = true from HOK.out, show Fsm.nodeAt s.data c.d.node.id = none from hf]; rfl)
   have HI := Lib.hid hi
   clear hi hf
   go_upto_region 16 with (first | go_skip | ((with_reducible refine isW ?_); refine wpList_load_blk rfl 30 _ rfl STStore w.heap.size rfl s.arr (show Blk _ _ 30 _ from hBj) rfl ?_) | (go_at_call 12; (with_reducible refine (refAtNode s.AN s.nN s.cN s.nodes c.node.id wj hsn hnN _ _ _ _ _ _ _ _).mono ?_); rintro e w4 ⟨rfl, hx4⟩; rw [HI.out]))
   have hBa := hBj.e0 hx4
   have hJa := hJ0.e0 hx4
   have hRa := hRj.e0 hx4
   have hEa := hEj.e0 hx4
   have hxa := hxj.tr hx4
   go_wp2
   have hBW := hBa
   have hXW := hJa
   have hRW := hRa
   have hEW := hEa
   have hxW := hxa
   have hseW := (h.keep0 hxW).slN
   have hzW := hxW.size
   have hWE : w.heap.size + 1 + 1 + 1 < w4.heap.size := hEW.lt
   have hWJ : J < w4.heap.size := hXW.lt
   go_loopw [10, 11, 12] (fun v7 v8 ki wr => ∃ t : Nat, t ≤ s.nN ∧ ki = .int .i64 t ∧ ∃ (out : List NodD) (pb : Bool) (A : Option Addr) (cc : Nat), (s.nodes.take t).foldl (Fsm.putS NodD.id ⟨c.node.id, ⟨c.node.cap.cpu, c.node.cap.mem⟩, true, false, c.node.boot, 1, 0⟩) ([], false) = (out, pb) ∧ out.length ≤ t + 1 ∧ v7 = .slice A out.length cc ∧ v8 = .bool pb ∧ wr.ownsRow w4.heap.size 43 8 (.slice A out.length cc) out.length (out.flatMap NodD.cells) ∧ Ext Nothing w4 wr) (fun _ _ ki _ => s.nN - (intOf ki).toNat)
   case atStart => exact ⟨0, Nat.zero_le _, rfl, [], false, none, 0, rfl, Nat.zero_le _, rfl, rfl, World.ownsRow_nil _ _ _ _, Ext.refl _ _⟩
   case round =>
    obtain ⟨t, ht, rfl, out, pb, A, cc, hz, hlen, rfl, rfl, hown, hx⟩ := hrel
    have hX := hXW.e0 hx
    have hzr := hx.size
    have c6 : wr.cell? ⟨w.heap.size, 4, none⟩ = some (.slice s.AN s.nN s.cN) := (hBW.e0 hx).cell 4
    by_cases hlt : t < s.nN
    ·obtain ⟨hjn, b, off, hAe, hce⟩ := hseW.get (Ext.refl Nothing w4) hlt
     have hst := Fsm.putS_take (key := NodD.id) (x := ⟨c.node.id, ⟨c.node.cap.cpu, c.node.cap.mem⟩, true, false, c.node.boot, 1, 0⟩) s.nodes t hjn
     have hlen2 := Fsm.putS_len_take (key := NodD.id) (x := ⟨c.node.id, ⟨c.node.cap.cpu, c.node.cap.mem⟩, true, false, c.node.boot, 1, 0⟩) s.nodes (t + 1)
     rw [hst, hz] at hlen2
     rw [hz] at hst
     generalize s.nodes[t] = y at hce hst hlen2
     obtain ⟨y0, ⟨y1, y2⟩, y3, y4, y5, y6, y7⟩ := y
     rw [hAe] at c6
     have cW6 : w4.cell? ⟨w.heap.size, 4, none⟩ = some (.slice (some ⟨b, off, none⟩) s.nN s.cN) := by rw [← hAe]; exact hBW.cell 4
     clear hAe
     have hn1 : out.length < 67108864 := by have := hel.out; omega
     have hn2 : out.length + 1 < 67108864 := by have := hel.out; omega
     have hk0 : (0 : Int) ≤ (t : Int) := by omega
     have hk1 : (t : Int) < s.nN := by omega
     have HT := Lib.hid hlt
     have HL := Lib.hid hlen2
     have HS := Lib.hid hst
     clear hz hst hlen2 hlen
     have k0 : wr.cell? ⟨b, off + t * 8, none⟩ = some (.int .i64 y0) := hx.cell (hce 0 _ rfl) (fun e => e)
     have hxk : wr.cell? ⟨J, 0, none⟩ = some (.int .i64 c.node.id) := hX.cell 0
     have hceR : ∀ j u, (NodD.cells ⟨y0, ⟨y1, y2⟩, y3, y4, y5, y6, y7⟩)[j]? = some u → wr.cell? ⟨b, off + t * 8 + j, none⟩ = some u := fun j u hu => hx.cell (hce j u hu) (fun e => e)
     cases pb with
     | true =>
      by_cases he : y0 = c.node.id
      ·have hne : (y0 != c.node.id) = false := by simpa using he
       go_wp2_with (first | go_skip | go_guarded)
       go_quiet (fail)
       have hd := (Ext.refl Nothing wr).drewN nq
       generalize wr.drewN nq = wq at hd ⊢
       have hx := hx.tr hd
       have hown := own_ext hown hd (fun _ _ e => e)
       have hX := hX.e0 hd
       have hzr := hx.size
       have k0 := hd.c0 k0
       have hxk := hd.c0 hxk
       have hceR : ∀ j u, (NodD.cells ⟨y0, ⟨y1, y2⟩, y3, y4, y5, y6, y7⟩)[j]? = some u → wq.cell? ⟨b, off + t * 8 + j, none⟩ = some u := fun j u hu => hd.cell (hceR j u hu) (fun e => e)
       have c6 := hd.c0 c6
       clear hd
       go_wp2_with (first | go_skip | go_guarded)
       go_quiet (fail)
       have hd := (Ext.refl Nothing wq).drewN nq
       generalize wq.drewN nq = wv at hd ⊢
       have hx := hx.tr hd
       have hown := own_ext hown hd (fun _ _ e => e)
       have hX := hX.e0 hd
       have hzr := hx.size
       have k0 := hd.c0 k0
       have hxk := hd.c0 hxk
       have hceR : ∀ j u, (NodD.cells ⟨y0, ⟨y1, y2⟩, y3, y4, y5, y6, y7⟩)[j]? = some u → wv.cell? ⟨b, off + t * 8 + j, none⟩ = some u := fun j u hu => hd.cell (hceR j u hu) (fun e => e)
       have c6 := hd.c0 c6
       clear hd
       go_wp2_with (first | go_skip | go_guarded)
       go_roundw
       case rel => exact ⟨t + 1, HT.out, by go_num, out, true, A, cc, HS.out.trans (by simp [Fsm.putS, he]), by have := HL.out; simpa [Fsm.putS, he] using this, by simp, rfl, hown, hx⟩
       case measure => have := HT.out; simp [intOf]; omega
      ·have hne : (y0 != c.node.id) = true := by simpa using he
       go_wp2_with (first | go_skip | go_guarded)
       go_quiet (fail)
       have hd := (Ext.refl Nothing wr).drewN nq
       generalize wr.drewN nq = wq at hd ⊢
       have hx := hx.tr hd
       have hown := own_ext hown hd (fun _ _ e => e)
       have hX := hX.e0 hd
       have hzr := hx.size
       have k0 := hd.c0 k0
       have hxk := hd.c0 hxk
       have hceR : ∀ j u, (NodD.cells ⟨y0, ⟨y1, y2⟩, y3, y4, y5, y6, y7⟩)[j]? = some u → wq.cell? ⟨b, off + t * 8 + j, none⟩ = some u := fun j u hu => hd.cell (hceR j u hu) (fun e => e)
       have c6 := hd.c0 c6
       clear hd
       go_wp2_with (first | go_skip | go_guarded)
       go_quiet (fail)
       have hd := (Ext.refl Nothing wq).drewN nq
       generalize wq.drewN nq = wv at hd ⊢
       have hx := hx.tr hd
       have hown := own_ext hown hd (fun _ _ e => e)
       have hX := hX.e0 hd
       have hzr := hx.size
       have k0 := hd.c0 k0
       have hxk := hd.c0 hxk
       have hceR : ∀ j u, (NodD.cells ⟨y0, ⟨y1, y2⟩, y3, y4, y5, y6, y7⟩)[j]? = some u → wv.cell? ⟨b, off + t * 8 + j, none⟩ = some u := fun j u hu => hd.cell (hceR j u hu) (fun e => e)
       have c6 := hd.c0 c6
       clear hd
       go_wp2_with (first | go_skip | go_guarded | ((with_reducible refine isW ?_); refine wpList_load_at rfl 43 _ rfl STNode b (off + t * 8) rfl #[.int .i64 y0, .int .i64 y1, .int .i64 y2, .bool y3, .bool y4, .int .i64 y5, .int .i64 y6, .int .i64 y7] (by first | exact hce2 | exact hceR) rfl ?_) | ((with_reducible refine isW2 ?_); refine wpList_push rfl rfl 24 _ rfl _ _ rfl SRNode #[.int .i64 y0, .int .i64 y1, .int .i64 y2, .bool y3, .bool y4, .int .i64 y5, .int .i64 y6, .int .i64 y7] rfl rfl w4.heap.size (.slice A out.length cc) (out.length) (out.flatMap NodD.cells) rfl rfl hown rfl hn1 hzr ?_; intro A1 c1 wa owna hxa; have hwa : Ext Nothing w4 wa := hx.trans hxa (fun q hq e => absurd (own_ge hown e) (by omega))))
       go_roundw
       case rel => exact ⟨t + 1, HT.out, by go_num, out ++ [⟨y0, ⟨y1, y2⟩, y3, y4, y5, y6, y7⟩], true, A1, c1, HS.out.trans (by simp [Fsm.putS, he]), by have := HL.out; simpa [Fsm.putS, he] using this, by simp, rfl, own_snoc owna rfl rfl, hwa⟩
       case measure => have := HT.out; simp [intOf]; omega
     | false =>
      by_cases hge : c.node.id ≤ y0
      ·have hge2 : decide (c.node.id ≤ y0) = true := by simpa using hge
       by_cases he : y0 = c.node.id
       ·have hne : (y0 != c.node.id) = false := by simpa using he
        go_wp2_with (first | go_skip | go_guarded)
        go_quiet (fail)
        have hd := (Ext.refl Nothing wr).drewN nq
        generalize wr.drewN nq = wq at hd ⊢
        have hx := hx.tr hd
        have hown := own_ext hown hd (fun _ _ e => e)
        have hX := hX.e0 hd
        have hzr := hx.size
        have k0 := hd.c0 k0
        have hxk := hd.c0 hxk
        have hceR : ∀ j u, (NodD.cells ⟨y0, ⟨y1, y2⟩, y3, y4, y5, y6, y7⟩)[j]? = some u → wq.cell? ⟨b, off + t * 8 + j, none⟩ = some u := fun j u hu => hd.cell (hceR j u hu) (fun e => e)
        have c6 := hd.c0 c6
        clear hd
        go_wp2_with (first | go_skip | go_guarded | ((with_reducible refine isW ?_); refine wpList_load_blk rfl 43 _ rfl STNode J rfl #[.int .i64 c.node.id, .int .i64 c.node.cap.cpu, .int .i64 c.node.cap.mem, .bool true, .bool false, .int .i64 c.node.boot, .int .i64 1, .int .i64 0] (show Blk _ _ 43 _ from by first | exact hX2 | exact hX) rfl ?_) | ((with_reducible refine isW2 ?_); refine wpList_push rfl rfl 24 _ rfl _ _ rfl SRNode #[.int .i64 c.node.id, .int .i64 c.node.cap.cpu, .int .i64 c.node.cap.mem, .bool true, .bool false, .int .i64 c.node.boot, .int .i64 1, .int .i64 0] rfl rfl w4.heap.size (.slice A out.length cc) (out.length) (out.flatMap NodD.cells) rfl rfl hown rfl hn1 hzr ?_; intro A1 c1 wa owna hxa; have hwa : Ext Nothing w4 wa := hx.trans hxa (fun q hq e => absurd (own_ge hown e) (by omega)); have hX2 := hXW.e0 hwa; have hza := hwa.size; have c62 : wa.cell? ⟨w.heap.size, 4, none⟩ = some (.slice (some ⟨b, off, none⟩) s.nN s.cN) := hwa.c0 cW6; have hxk2 : wa.cell? ⟨J, 0, none⟩ = some (.int .i64 c.node.id) := hX2.cell 0; have k02 : wa.cell? ⟨b, off + t * 8, none⟩ = some (.int .i64 y0) := hwa.cell (hce 0 _ rfl) (fun e => e); have hce2 : ∀ j u, (NodD.cells ⟨y0, ⟨y1, y2⟩, y3, y4, y5, y6, y7⟩)[j]? = some u → wa.cell? ⟨b, off + t * 8 + j, none⟩ = some u := fun j u hu => hwa.cell (hce j u hu) (fun e => e)))
        go_quiet (fail)
        have hd := (Ext.refl Nothing wa).drewN nq
        generalize wa.drewN nq = wv at hd ⊢
        have hwa := hwa.tr hd
        have owna := own_ext owna hd (fun _ _ e => e)
        have hX2 := hX2.e0 hd
        have hza := hwa.size
        have k02 := hd.c0 k02
        have hxk2 := hd.c0 hxk2
        have hce2 : ∀ j u, (NodD.cells ⟨y0, ⟨y1, y2⟩, y3, y4, y5, y6, y7⟩)[j]? = some u → wv.cell? ⟨b, off + t * 8 + j, none⟩ = some u := fun j u hu => hd.cell (hce2 j u hu) (fun e => e)
        have c62 := hd.c0 c62
        clear hd
        go_wp2_with (first | go_skip | go_guarded)
        go_roundw
        case rel => exact ⟨t + 1, HT.out, by go_num, out ++ [⟨c.node.id, ⟨c.node.cap.cpu, c.node.cap.mem⟩, true, false, c.node.boot, 1, 0⟩], true, A1, c1, HS.out.trans (by simp [Fsm.putS, he]), by have := HL.out; simpa [Fsm.putS, he] using this, by simp, rfl, own_snoc owna rfl rfl, hwa⟩
        case measure => have := HT.out; simp [intOf]; omega
       ·have hne : (y0 != c.node.id) = true := by simpa using he
        go_wp2_with (first | go_skip | go_guarded)
        go_quiet (fail)
        have hd := (Ext.refl Nothing wr).drewN nq
        generalize wr.drewN nq = wq at hd ⊢
        have hx := hx.tr hd
        have hown := own_ext hown hd (fun _ _ e => e)
        have hX := hX.e0 hd
        have hzr := hx.size
        have k0 := hd.c0 k0
        have hxk := hd.c0 hxk
        have hceR : ∀ j u, (NodD.cells ⟨y0, ⟨y1, y2⟩, y3, y4, y5, y6, y7⟩)[j]? = some u → wq.cell? ⟨b, off + t * 8 + j, none⟩ = some u := fun j u hu => hd.cell (hceR j u hu) (fun e => e)
        have c6 := hd.c0 c6
        clear hd
        go_wp2_with (first | go_skip | go_guarded | ((with_reducible refine isW ?_); refine wpList_load_blk rfl 43 _ rfl STNode J rfl #[.int .i64 c.node.id, .int .i64 c.node.cap.cpu, .int .i64 c.node.cap.mem, .bool true, .bool false, .int .i64 c.node.boot, .int .i64 1, .int .i64 0] (show Blk _ _ 43 _ from by first | exact hX2 | exact hX) rfl ?_) | ((with_reducible refine isW2 ?_); refine wpList_push rfl rfl 24 _ rfl _ _ rfl SRNode #[.int .i64 c.node.id, .int .i64 c.node.cap.cpu, .int .i64 c.node.cap.mem, .bool true, .bool false, .int .i64 c.node.boot, .int .i64 1, .int .i64 0] rfl rfl w4.heap.size (.slice A out.length cc) (out.length) (out.flatMap NodD.cells) rfl rfl hown rfl hn1 hzr ?_; intro A1 c1 wa owna hxa; have hwa : Ext Nothing w4 wa := hx.trans hxa (fun q hq e => absurd (own_ge hown e) (by omega)); have hX2 := hXW.e0 hwa; have hza := hwa.size; have c62 : wa.cell? ⟨w.heap.size, 4, none⟩ = some (.slice (some ⟨b, off, none⟩) s.nN s.cN) := hwa.c0 cW6; have hxk2 : wa.cell? ⟨J, 0, none⟩ = some (.int .i64 c.node.id) := hX2.cell 0; have k02 : wa.cell? ⟨b, off + t * 8, none⟩ = some (.int .i64 y0) := hwa.cell (hce 0 _ rfl) (fun e => e); have hce2 : ∀ j u, (NodD.cells ⟨y0, ⟨y1, y2⟩, y3, y4, y5, y6, y7⟩)[j]? = some u → wa.cell? ⟨b, off + t * 8 + j, none⟩ = some u := fun j u hu => hwa.cell (hce j u hu) (fun e => e)))
        go_quiet (fail)
        have hd := (Ext.refl Nothing wa).drewN nq
        generalize wa.drewN nq = wv at hd ⊢
        have hwa := hwa.tr hd
        have owna := own_ext owna hd (fun _ _ e => e)
        have hX2 := hX2.e0 hd
        have hza := hwa.size
        have k02 := hd.c0 k02
        have hxk2 := hd.c0 hxk2
        have hce2 : ∀ j u, (NodD.cells ⟨y0, ⟨y1, y2⟩, y3, y4, y5, y6, y7⟩)[j]? = some u → wv.cell? ⟨b, off + t * 8 + j, none⟩ = some u := fun j u hu => hd.cell (hce2 j u hu) (fun e => e)
        have c62 := hd.c0 c62
        clear hd
        go_wp2_with (first | go_skip | go_guarded | ((with_reducible refine isW ?_); refine wpList_load_at rfl 43 _ rfl STNode b (off + t * 8) rfl #[.int .i64 y0, .int .i64 y1, .int .i64 y2, .bool y3, .bool y4, .int .i64 y5, .int .i64 y6, .int .i64 y7] (by first | exact hce2 | exact hceR) rfl ?_) | ((with_reducible refine isW2 ?_); refine wpList_push rfl rfl 24 _ rfl _ _ rfl SRNode #[.int .i64 y0, .int .i64 y1, .int .i64 y2, .bool y3, .bool y4, .int .i64 y5, .int .i64 y6, .int .i64 y7] rfl rfl w4.heap.size (.slice A1 (out.length + 1) c1) (out.length + 1) (out.flatMap NodD.cells ++ #[.int .i64 c.node.id, .int .i64 c.node.cap.cpu, .int .i64 c.node.cap.mem, .bool true, .bool false, .int .i64 c.node.boot, .int .i64 1, .int .i64 0].toList) rfl rfl owna rfl hn2 hza ?_; intro A2 c2 wb ownb hxb))
        go_roundw
        case rel => exact ⟨t + 1, HT.out, by go_num, out ++ [⟨c.node.id, ⟨c.node.cap.cpu, c.node.cap.mem⟩, true, false, c.node.boot, 1, 0⟩] ++ [⟨y0, ⟨y1, y2⟩, y3, y4, y5, y6, y7⟩], true, A2, c2, HS.out.trans (by simp [Fsm.putS, he, hge]), by have := HL.out; simpa [Fsm.putS, he, hge] using this, by simp, rfl, own_snoc2 ownb rfl rfl rfl, hwa.trans hxb (fun q hq e => absurd (own_ge owna e) (by omega))⟩
        case measure => have := HT.out; simp [intOf]; omega
      ·have he : ¬ y0 = c.node.id := by omega
       have hne : (y0 != c.node.id) = true := by simpa using he
       have hge2 : decide (c.node.id ≤ y0) = false := by simpa using hge
       have HG := Lib.hid hge
       go_wp2_with (first | go_skip | go_guarded)
       go_quiet (fail)
       have hd := (Ext.refl Nothing wr).drewN nq
       generalize wr.drewN nq = wq at hd ⊢
       have hx := hx.tr hd
       have hown := own_ext hown hd (fun _ _ e => e)
       have hX := hX.e0 hd
       have hzr := hx.size
       have k0 := hd.c0 k0
       have hxk := hd.c0 hxk
       have hceR : ∀ j u, (NodD.cells ⟨y0, ⟨y1, y2⟩, y3, y4, y5, y6, y7⟩)[j]? = some u → wq.cell? ⟨b, off + t * 8 + j, none⟩ = some u := fun j u hu => hd.cell (hceR j u hu) (fun e => e)
       have c6 := hd.c0 c6
       clear hd
       go_wp2_with (first | go_skip | go_guarded)
       go_quiet (fail)
       have hd := (Ext.refl Nothing wq).drewN nq
       generalize wq.drewN nq = wv at hd ⊢
       have hx := hx.tr hd
       have hown := own_ext hown hd (fun _ _ e => e)
       have hX := hX.e0 hd
       have hzr := hx.size
       have k0 := hd.c0 k0
       have hxk := hd.c0 hxk
       have hceR : ∀ j u, (NodD.cells ⟨y0, ⟨y1, y2⟩, y3, y4, y5, y6, y7⟩)[j]? = some u → wv.cell? ⟨b, off + t * 8 + j, none⟩ = some u := fun j u hu => hd.cell (hceR j u hu) (fun e => e)
       have c6 := hd.c0 c6
       clear hd
       go_wp2_with (first | go_skip | go_guarded | ((with_reducible refine isW ?_); refine wpList_load_at rfl 43 _ rfl STNode b (off + t * 8) rfl #[.int .i64 y0, .int .i64 y1, .int .i64 y2, .bool y3, .bool y4, .int .i64 y5, .int .i64 y6, .int .i64 y7] (by first | exact hce2 | exact hceR) rfl ?_) | ((with_reducible refine isW2 ?_); refine wpList_push rfl rfl 24 _ rfl _ _ rfl SRNode #[.int .i64 y0, .int .i64 y1, .int .i64 y2, .bool y3, .bool y4, .int .i64 y5, .int .i64 y6, .int .i64 y7] rfl rfl w4.heap.size (.slice A out.length cc) (out.length) (out.flatMap NodD.cells) rfl rfl hown rfl hn1 hzr ?_; intro A1 c1 wa owna hxa; have hwa : Ext Nothing w4 wa := hx.trans hxa (fun q hq e => absurd (own_ge hown e) (by omega))))
       go_roundw
       case rel => exact ⟨t + 1, HT.out, by go_num, out ++ [⟨y0, ⟨y1, y2⟩, y3, y4, y5, y6, y7⟩], false, A1, c1, HS.out.trans (by simp [Fsm.putS, he, HG.out]), by have := HL.out; simpa [Fsm.putS, he, HG.out, hge2] using this, by simp, rfl, own_snoc owna rfl rfl, hwa⟩
       case measure => have := HT.out; simp [intOf]; omega
    ·have hzz : (s.nodes.take t) = s.nodes := List.take_of_length_le (by have := hel.out; omega)
     rw [hzz] at hz
     have hfin := Fsm.put_fold (key := NodD.id) (x := ⟨c.node.id, ⟨c.node.cap.cpu, c.node.cap.mem⟩, true, false, c.node.boot, 1, 0⟩) s.nodes []
     rw [hz, List.nil_append] at hfin
     have HF := Lib.hid hfin
     have hol : out.length < 67108864 := by have := hel.out; omega
     have hnl : ¬ ((t : Int) < s.nN) := by omega
     clear hz hfin hzz
     cases pb with
     | true =>
       have hB := hBW.e0 hx
       have fz : wr.frozen? ⟨w.heap.size, 4, none⟩ = false := hB.frozen 4
       go_upto_region 29 with (first | go_skip)
       have hxs : Ext (fun b => b = w.heap.size) wr (wr.setCell ⟨w.heap.size, 4, none⟩ (.slice A out.length cc)) := Ext.set1 _ _ _ _
       have hxw : Ext Nothing w (wr.setCell ⟨w.heap.size, 4, none⟩ (.slice A out.length cc)) := (hxW.tr hx).trans hxs (fun b hb e => absurd (show b = w.heap.size from e) (by omega))
       have hls : ({ s with AN := A, nN := out.length, cN := cc, nodes := out } : StoreV) = s.setN A cc (out) := by simp [StoreV.setN]
       have hO1 : OwnS base (wr.setCell ⟨w.heap.size, 4, none⟩ (.slice A out.length cc)) ({ s with AN := A, nN := out.length, cN := cc, nodes := out } : StoreV) := by
        rw [hls]
        exact h.wN hxw Apart.none (own_base (own_ext hown hxs (fun g hg e => by have := own_ge hown hg; have h9 : g = w.heap.size := e; omega)) (by omega))
       have hB1 : Blk (wr.setCell ⟨w.heap.size, 4, none⟩ (.slice A out.length cc)) w.heap.size 30 ({ s with AN := A, nN := out.length, cN := cc, nodes := out } : StoreV).arr := hB.set_ 4 _
       have hX1 : Blk (wr.setCell ⟨w.heap.size, 4, none⟩ (.slice A out.length cc)) J 43 _ := (hXW.e0 hx).ext hxs (fun e => absurd (show J = w.heap.size from e) (by omega))
       have hR1 : Blk (wr.setCell ⟨w.heap.size, 4, none⟩ (.slice A out.length cc)) (w.heap.size + 1 + 1) 30 _ := (hRW.e0 hx).ext hxs (fun e => absurd (show w.heap.size + 1 + 1 = w.heap.size from e) (by omega))
       have hE1 : Blk (wr.setCell ⟨w.heap.size, 4, none⟩ (.slice A out.length cc)) (w.heap.size + 1 + 1 + 1) 34 _ := (hEW.e0 hx).ext hxs (fun e => absurd (show w.heap.size + 1 + 1 + 1 = w.heap.size from e) (by omega))
       have hdat : ({ s with AN := A, nN := out.length, cN := cc, nodes := out } : StoreV).data = { s.data with nodes := (Fsm.putL NodD.id ⟨c.node.id, ⟨c.node.cap.cpu, c.node.cap.mem⟩, true, false, c.node.boot, 1, 0⟩ s.nodes) } := by rw [← HF.out]; rfl
       have HDT := Lib.hid hdat
       clear hdat hls hxs
       generalize (wr.setCell ⟨w.heap.size, 4, none⟩ (.slice A out.length cc)) = wS at hO1 hB1 hX1 hR1 hE1 hxw ⊢
       have j0 : wS.cell? ⟨J, 0, none⟩ = some (.int .i64 c.node.id) := hX1.cell 0
       have hbS : base ≤ wS.heap.size := by have := hxw.size; omega
       have hge1 : ∀ b, (vA ({ s with AN := A, nN := out.length, cN := cc, nodes := out } : StoreV)).ownBlock = some b → base ≤ b ∧ b < w.heap.size := fun b hb => ⟨own_ge h.a hb, own_lt h.a hb⟩
       have hJv : ({ s with AN := A, nN := out.length, cN := cc, nodes := out } : StoreV).jobs.length ≤ 1048576 := hJ
       have hAv : ({ s with AN := A, nN := out.length, cN := cc, nodes := out } : StoreV).allocs.length ≤ 1048576 := hA
       have hEv : ({ s with AN := A, nN := out.length, cN := cc, nodes := out } : StoreV).evals.length ≤ 33554432 := by show s.evals.length ≤ _; omega
       go_upto_region 30 with (first | go_skip | ((with_reducible refine isW ?_); refine wpList_load_blk rfl 30 _ rfl STStore w.heap.size rfl ({ s with AN := A, nN := out.length, cN := cc, nodes := out } : StoreV).arr (show Blk _ _ 30 _ from hB1) rfl ?_) | (go_at_call 57; (with_reducible refine (refLost base ({ s with AN := A, nN := out.length, cN := cc, nodes := out } : StoreV) c.node.id wS hO1 hbS hJv hAv hEv).mono ?_); rintro e wl ⟨s1, rfl, hOl, hdl, hel2, ⟨aL, AL, nL, cL, lL, hlaL, rfl⟩, hxl⟩; have hbl : base ≤ wl.heap.size := (by have := hxl.size; omega); have hEl : lL.length ≤ 33554432 := (by have h1 : lL.length ≤ s.evals.length + s.allocs.length := hel2; omega); have hBl := hB1.ext hxl (fun e => by have := hge1 _ e; omega)) | (go_at_call 56; (with_reducible refine (refSystem base _ wl hOl hbl hJ hEl).mono ?_); rintro e w8 ⟨s2, rfl, hO8, hd8, ⟨A2, n2, c2, l2, rfl⟩, hx8⟩; have hB8 := hBl.e0 hx8) | ((with_reducible refine isW ?_); refine wpList_store_blk rfl 30 _ _ rfl STStore w.heap.size rfl _ rfl hB8 rfl rfl rfl ?_; intro w9 hB9 hx9))
       have hk9 : ∀ b : Nat, w.heap.size < b → b ≠ J → True := fun _ _ _ => trivial
       have hX9 := ((hX1.ext hxl (fun e => by have := hge1 _ e; omega)).e0 hx8).ext hx9 (fun e => absurd (show J = w.heap.size from e) (by omega))
       have hR9 := ((hR1.ext hxl (fun e => by have := hge1 _ e; omega)).e0 hx8).ext hx9 (fun e => absurd (show w.heap.size + 1 + 1 = w.heap.size from e) (by omega))
       have hE9 := ((hE1.ext hxl (fun e => by have := hge1 _ e; omega)).e0 hx8).ext hx9 (fun e => absurd (show w.heap.size + 1 + 1 + 1 = w.heap.size from e) (by omega))
       have hO9 := hO8.keep hx9 (Apart.one hB8 (by decide))
       have hx9w : Ext (RowB base w) w w9 := (((hxw.mono (S' := RowB base w) (fun _ _ e => e.elim)).trans hxl (fun b hb e => RowB.of_own h.a (by decide) e)).trans hx8 (fun _ _ e => e.elim)).trans hx9 (fun b h9 e => absurd (show b = w.heap.size from e) (by omega))
       have hE2 : l2.length < 67108862 := by
        have e1 : l2.length = (Fsm.system ({ ({ s with AN := A, nN := out.length, cN := cc, nodes := out } : StoreV) with allocs := aL, AE := AL, nE := nL, cE := cL, evals := lL } : StoreV).data).evals.length := congrArg (fun z : StoreD => z.evals.length) hd8
        have e2 := Fsm.fold_len (f := sysStep) sysStep_len ({ ({ s with AN := A, nN := out.length, cN := cc, nodes := out } : StoreV) with allocs := aL, AE := AL, nE := nL, cE := cL, evals := lL } : StoreV).data.jobs ({ ({ s with AN := A, nN := out.length, cN := cc, nodes := out } : StoreV) with allocs := aL, AE := AL, nE := nL, cE := cL, evals := lL } : StoreV).data
        rw [← sys_fold] at e2
        have e3 : ({ ({ s with AN := A, nN := out.length, cN := cc, nodes := out } : StoreV) with allocs := aL, AE := AL, nE := nL, cE := cL, evals := lL } : StoreV).data.evals.length = lL.length := rfl
        have e4 : ({ ({ s with AN := A, nN := out.length, cN := cc, nodes := out } : StoreV) with allocs := aL, AE := AL, nE := nL, cE := cL, evals := lL } : StoreV).data.jobs.length = s.jobs.length := by show (s.jobs.map (·.1)).length = _; simp
        omega
       have hdd := HFR.out
       rw [show Fsm.joins s.data ⟨c.node.id, ⟨c.node.cap.cpu, c.node.cap.mem⟩, true, false, c.node.boot, 1, 0⟩ = Fsm.came (Fsm.system (Fsm.lost ({ s.data with nodes := (Fsm.putL NodD.id ⟨c.node.id, ⟨c.node.cap.cpu, c.node.cap.mem⟩, true, false, c.node.boot, 1, 0⟩ s.nodes) } : StoreD) c.node.id)) from rfl, ← HDT.out, ← hdl, ← hd8] at hdd
       have HDD := Lib.hid hdd
       clear hdd hdl hd8 hk9
       have hw9 : w.heap.size + 1 + 1 + 1 < w9.heap.size := hE9.lt
       have hB9 : Blk w9 w.heap.size 30 ({ ({ ({ s with AN := A, nN := out.length, cN := cc, nodes := out } : StoreV) with allocs := aL, AE := AL, nE := nL, cE := cL, evals := lL } : StoreV) with AE := A2, nE := n2, cE := c2, evals := l2 } : StoreV).arr := hB9
       have hO9 : OwnS base w9 ({ ({ ({ s with AN := A, nN := out.length, cN := cc, nodes := out } : StoreV) with allocs := aL, AE := AL, nE := nL, cE := cL, evals := lL } : StoreV) with AE := A2, nE := n2, cE := c2, evals := l2 } : StoreV) := hO9
       refine zH (S := fun q => q = (w.heap.size + 1 + 1) ∨ q = (w.heap.size + 1 + 1 + 1) ∨ (vE ({ ({ ({ s with AN := A, nN := out.length, cN := cc, nodes := out } : StoreV) with allocs := aL, AE := AL, nE := nL, cE := cL, evals := lL } : StoreV) with AE := A2, nE := n2, cE := c2, evals := l2 } : StoreV)).ownBlock = some q) (by kernel_rfl) (fun Wd hd hd0 => ?_)
       refine zT 0 (.agg ({ ({ ({ s with AN := A, nN := out.length, cN := cc, nodes := out } : StoreV) with allocs := aL, AE := AL, nE := nL, cE := cL, evals := lL } : StoreV) with AE := A2, nE := n2, cE := c2, evals := l2 } : StoreV).arr) rfl (by kernel_rfl) (by rfl) hd (fun _ _ _ h => h) ?_ ?_
       ·intro W' hS'
        exact run_load_blk rfl STStore (by go_simp) (hB9.ext hS' (fun e => by rcases e with e | e | e; exact absurd e (by omega); exact absurd e (by omega); exact own_ne hO9.e hB9 (by decide) e)) rfl
       refine zT 2 (.pointer (some ⟨J, 6, none⟩)) rfl (by kernel_rfl) (by rfl) hd (fun _ _ _ h => h) ?_ ?_
       ·intro W' hS'
        go_simp
       refine zT 3 (.int .i64 1) rfl (by kernel_rfl) (by rfl) hd (fun _ _ _ h => h) ?_ ?_
       ·intro W' hS'
        have q5 : W'.cell? ⟨J, 6, none⟩ = some (.int .i64 1) := (hX9.ext hS' (fun e => by rcases e with e | e | e; exact absurd e (by omega); exact absurd e (by omega); exact own_ne hO9.e hX9 (by decide) e)).cell 6
        go_simp
       refine zT 4 (.agg (resArr 0 1)) rfl (by kernel_rfl) (by rfl) hd (fun _ _ _ h => h) ?_ ?_
       ·intro W' hS'
        go_simp
       simp only [Act.put, zA, zB, zC, zD, zE, zF]
       refine zO 1 (by kernel_rfl) ?_
       have hOd := hO9.keep0 hd0
       refine wpOp_call (f := 58) (args := #[.agg ({ ({ ({ s with AN := A, nN := out.length, cN := cc, nodes := out } : StoreV) with allocs := aL, AE := AL, nE := nL, cE := cL, evals := lL } : StoreV) with AE := A2, nE := n2, cE := c2, evals := l2 } : StoreV).arr]) rfl (by rfl) (by go_simp) ((refCame base ({ ({ ({ s with AN := A, nN := out.length, cN := cc, nodes := out } : StoreV) with allocs := aL, AE := AL, nE := nL, cE := cL, evals := lL } : StoreV) with AE := A2, nE := n2, cE := c2, evals := l2 } : StoreV) Wd hOd hE2).mono ?_)
       rintro e wb ⟨s3, rfl, hO10, hd10, _, hxb⟩
       have hd1 := hd.trans hxb (fun q hq e => .inr (.inr e))
       refine ⟨_, rfl, hd1, ?_⟩
       have hRb := (hR9.e0 hd0).ext hxb (fun e => own_ne hO9.e hR9 (by decide) e)
       have hEb := (hE9.e0 hd0).ext hxb (fun e => own_ne hO9.e hE9 (by decide) e)
       simp only [Act.put, zA, zB, zC, zD, zE, zF]
       refine zO 5 (by kernel_rfl) ?_
       refine wpOp_store (p := (w.heap.size + 1 + 1)) (cs := s3.arr) rfl (by rfl) rfl (by go_simp) (by go_simp) hRb rfl STStore rfl rfl (fun w2 hR2 hx2 => ?_)
       have hd2 := hd1.trans hx2 (fun q hq e => .inl e)
       refine ⟨hd2, ?_⟩
       simp only [Act.put, zA, zB, zC, zD, zE, zF]
       refine zO 6 (by kernel_rfl) ?_
       refine wpOp_store (p := (w.heap.size + 1 + 1 + 1)) (cs := resArr 0 1) rfl (by rfl) rfl (by go_simp) (by go_simp) (hEb.ext hx2 (fun e => absurd (show (w.heap.size + 1 + 1 + 1) = (w.heap.size + 1 + 1) from e) (by omega))) rfl STResult rfl rfl (fun w3 hE3 hx3' => ?_)
       have hx3 := hd2.trans hx3' (fun q hq e => .inr (.inl e))
       have hR3 := hR2.ext hx3' (fun e => absurd (show (w.heap.size + 1 + 1) = (w.heap.size + 1 + 1 + 1) from e) (by omega))
       refine ⟨hx3, wpAnyH_done (by kernel_rfl) ?_ _⟩
       simp only [Act.put, zA, zB, zC, zD, zE, zF]
       go_wp2
       have hOt := (hO10.keep hx2 (Apart.one hRb (by decide))).keep hx3' (Apart.one (hEb.ext hx2 (fun e => absurd (show (w.heap.size + 1 + 1 + 1) = (w.heap.size + 1 + 1) from e) (by omega))) (by decide))
       exact bodyPost_ret (results_cell2 rfl STStore STResult rfl rfl hR3 rfl hE3 rfl) rfl ⟨s3, ⟨0, 1, []⟩, rfl, hOt, by rw [HDD.out, hd10], rfl, hx9w.trans hx3 (fun b hb2 e => by rcases e with e | e | e; omega; omega; exact (RowB.of_own hO9.e (by decide) e).back hx9w hb2)⟩
     | false =>
       go_upto_region 29 with (first | go_skip | ((with_reducible refine isW ?_); refine wpList_load_blk rfl 43 _ rfl STNode J rfl #[.int .i64 c.node.id, .int .i64 c.node.cap.cpu, .int .i64 c.node.cap.mem, .bool true, .bool false, .int .i64 c.node.boot, .int .i64 1, .int .i64 0] (show Blk _ _ 43 _ from hX) rfl ?_) | ((with_reducible refine isW2 ?_); refine wpList_push rfl rfl 24 _ rfl _ _ rfl SRNode #[.int .i64 c.node.id, .int .i64 c.node.cap.cpu, .int .i64 c.node.cap.mem, .bool true, .bool false, .int .i64 c.node.boot, .int .i64 1, .int .i64 0] rfl rfl w4.heap.size (.slice A out.length cc) (out.length) (out.flatMap NodD.cells) rfl rfl hown rfl hol hzr ?_; intro A1 c1 wa owna hxa; have hwa : Ext Nothing w4 wa := hx.trans hxa (fun q hq e => absurd (own_ge hown e) (by omega)); have hB := hBW.e0 hwa; have fz : wa.frozen? ⟨w.heap.size, 4, none⟩ = false := hB.frozen 4; have c4a : wa.cell? ⟨w.heap.size, 4, none⟩ = some (.slice s.AN s.nN s.cN) := hB.cell 4))
       have ho1 := own_snoc (x := (⟨c.node.id, ⟨c.node.cap.cpu, c.node.cap.mem⟩, true, false, c.node.boot, 1, 0⟩ : NodD)) owna rfl rfl
       have hxs : Ext (fun b => b = w.heap.size) wa (wa.setCell ⟨w.heap.size, 4, none⟩ (.slice A1 (out.length + 1) c1)) := Ext.set1 _ _ _ _
       have hxw : Ext Nothing w (wa.setCell ⟨w.heap.size, 4, none⟩ (.slice A1 (out.length + 1) c1)) := (hxW.tr hwa).trans hxs (fun b hb e => absurd (show b = w.heap.size from e) (by omega))
       have hls : ({ s with AN := A1, nN := (out.length + 1), cN := c1, nodes := out ++ [(⟨c.node.id, ⟨c.node.cap.cpu, c.node.cap.mem⟩, true, false, c.node.boot, 1, 0⟩ : NodD)] } : StoreV) = s.setN A1 c1 (out ++ [(⟨c.node.id, ⟨c.node.cap.cpu, c.node.cap.mem⟩, true, false, c.node.boot, 1, 0⟩ : NodD)]) := by simp [StoreV.setN]
       have hO1 : OwnS base (wa.setCell ⟨w.heap.size, 4, none⟩ (.slice A1 (out.length + 1) c1)) ({ s with AN := A1, nN := (out.length + 1), cN := c1, nodes := out ++ [(⟨c.node.id, ⟨c.node.cap.cpu, c.node.cap.mem⟩, true, false, c.node.boot, 1, 0⟩ : NodD)] } : StoreV) := by
        rw [hls]
        exact h.wN hxw Apart.none (own_base (own_ext ho1 hxs (fun g hg e => by have := own_ge ho1 hg; have h9 : g = w.heap.size := e; omega)) (by omega))
       have hB1 : Blk (wa.setCell ⟨w.heap.size, 4, none⟩ (.slice A1 (out.length + 1) c1)) w.heap.size 30 ({ s with AN := A1, nN := (out.length + 1), cN := c1, nodes := out ++ [(⟨c.node.id, ⟨c.node.cap.cpu, c.node.cap.mem⟩, true, false, c.node.boot, 1, 0⟩ : NodD)] } : StoreV).arr := hB.set_ 4 _
       have hX1 : Blk (wa.setCell ⟨w.heap.size, 4, none⟩ (.slice A1 (out.length + 1) c1)) J 43 _ := (hXW.e0 hwa).ext hxs (fun e => absurd (show J = w.heap.size from e) (by omega))
       have hR1 : Blk (wa.setCell ⟨w.heap.size, 4, none⟩ (.slice A1 (out.length + 1) c1)) (w.heap.size + 1 + 1) 30 _ := (hRW.e0 hwa).ext hxs (fun e => absurd (show w.heap.size + 1 + 1 = w.heap.size from e) (by omega))
       have hE1 : Blk (wa.setCell ⟨w.heap.size, 4, none⟩ (.slice A1 (out.length + 1) c1)) (w.heap.size + 1 + 1 + 1) 34 _ := (hEW.e0 hwa).ext hxs (fun e => absurd (show w.heap.size + 1 + 1 + 1 = w.heap.size from e) (by omega))
       have hdat : ({ s with AN := A1, nN := (out.length + 1), cN := c1, nodes := out ++ [(⟨c.node.id, ⟨c.node.cap.cpu, c.node.cap.mem⟩, true, false, c.node.boot, 1, 0⟩ : NodD)] } : StoreV).data = { s.data with nodes := (Fsm.putL NodD.id ⟨c.node.id, ⟨c.node.cap.cpu, c.node.cap.mem⟩, true, false, c.node.boot, 1, 0⟩ s.nodes) } := by rw [← HF.out]; rfl
       have HDT := Lib.hid hdat
       clear hdat hls hxs
       generalize (wa.setCell ⟨w.heap.size, 4, none⟩ (.slice A1 (out.length + 1) c1)) = wS at hO1 hB1 hX1 hR1 hE1 hxw ⊢
       have j0 : wS.cell? ⟨J, 0, none⟩ = some (.int .i64 c.node.id) := hX1.cell 0
       have hbS : base ≤ wS.heap.size := by have := hxw.size; omega
       have hge1 : ∀ b, (vA ({ s with AN := A1, nN := (out.length + 1), cN := c1, nodes := out ++ [(⟨c.node.id, ⟨c.node.cap.cpu, c.node.cap.mem⟩, true, false, c.node.boot, 1, 0⟩ : NodD)] } : StoreV)).ownBlock = some b → base ≤ b ∧ b < w.heap.size := fun b hb => ⟨own_ge h.a hb, own_lt h.a hb⟩
       have hJv : ({ s with AN := A1, nN := (out.length + 1), cN := c1, nodes := out ++ [(⟨c.node.id, ⟨c.node.cap.cpu, c.node.cap.mem⟩, true, false, c.node.boot, 1, 0⟩ : NodD)] } : StoreV).jobs.length ≤ 1048576 := hJ
       have hAv : ({ s with AN := A1, nN := (out.length + 1), cN := c1, nodes := out ++ [(⟨c.node.id, ⟨c.node.cap.cpu, c.node.cap.mem⟩, true, false, c.node.boot, 1, 0⟩ : NodD)] } : StoreV).allocs.length ≤ 1048576 := hA
       have hEv : ({ s with AN := A1, nN := (out.length + 1), cN := c1, nodes := out ++ [(⟨c.node.id, ⟨c.node.cap.cpu, c.node.cap.mem⟩, true, false, c.node.boot, 1, 0⟩ : NodD)] } : StoreV).evals.length ≤ 33554432 := by show s.evals.length ≤ _; omega
       go_upto_region 30 with (first | go_skip | ((with_reducible refine isW ?_); refine wpList_load_blk rfl 30 _ rfl STStore w.heap.size rfl ({ s with AN := A1, nN := (out.length + 1), cN := c1, nodes := out ++ [(⟨c.node.id, ⟨c.node.cap.cpu, c.node.cap.mem⟩, true, false, c.node.boot, 1, 0⟩ : NodD)] } : StoreV).arr (show Blk _ _ 30 _ from hB1) rfl ?_) | (go_at_call 57; (with_reducible refine (refLost base ({ s with AN := A1, nN := (out.length + 1), cN := c1, nodes := out ++ [(⟨c.node.id, ⟨c.node.cap.cpu, c.node.cap.mem⟩, true, false, c.node.boot, 1, 0⟩ : NodD)] } : StoreV) c.node.id wS hO1 hbS hJv hAv hEv).mono ?_); rintro e wl ⟨s1, rfl, hOl, hdl, hel2, ⟨aL, AL, nL, cL, lL, hlaL, rfl⟩, hxl⟩; have hbl : base ≤ wl.heap.size := (by have := hxl.size; omega); have hEl : lL.length ≤ 33554432 := (by have h1 : lL.length ≤ s.evals.length + s.allocs.length := hel2; omega); have hBl := hB1.ext hxl (fun e => by have := hge1 _ e; omega)) | (go_at_call 56; (with_reducible refine (refSystem base _ wl hOl hbl hJ hEl).mono ?_); rintro e w8 ⟨s2, rfl, hO8, hd8, ⟨A2, n2, c2, l2, rfl⟩, hx8⟩; have hB8 := hBl.e0 hx8) | ((with_reducible refine isW ?_); refine wpList_store_blk rfl 30 _ _ rfl STStore w.heap.size rfl _ rfl hB8 rfl rfl rfl ?_; intro w9 hB9 hx9))
       have hk9 : ∀ b : Nat, w.heap.size < b → b ≠ J → True := fun _ _ _ => trivial
       have hX9 := ((hX1.ext hxl (fun e => by have := hge1 _ e; omega)).e0 hx8).ext hx9 (fun e => absurd (show J = w.heap.size from e) (by omega))
       have hR9 := ((hR1.ext hxl (fun e => by have := hge1 _ e; omega)).e0 hx8).ext hx9 (fun e => absurd (show w.heap.size + 1 + 1 = w.heap.size from e) (by omega))
       have hE9 := ((hE1.ext hxl (fun e => by have := hge1 _ e; omega)).e0 hx8).ext hx9 (fun e => absurd (show w.heap.size + 1 + 1 + 1 = w.heap.size from e) (by omega))
       have hO9 := hO8.keep hx9 (Apart.one hB8 (by decide))
       have hx9w : Ext (RowB base w) w w9 := (((hxw.mono (S' := RowB base w) (fun _ _ e => e.elim)).trans hxl (fun b hb e => RowB.of_own h.a (by decide) e)).trans hx8 (fun _ _ e => e.elim)).trans hx9 (fun b h9 e => absurd (show b = w.heap.size from e) (by omega))
       have hE2 : l2.length < 67108862 := by
        have e1 : l2.length = (Fsm.system ({ ({ s with AN := A1, nN := (out.length + 1), cN := c1, nodes := out ++ [(⟨c.node.id, ⟨c.node.cap.cpu, c.node.cap.mem⟩, true, false, c.node.boot, 1, 0⟩ : NodD)] } : StoreV) with allocs := aL, AE := AL, nE := nL, cE := cL, evals := lL } : StoreV).data).evals.length := congrArg (fun z : StoreD => z.evals.length) hd8
        have e2 := Fsm.fold_len (f := sysStep) sysStep_len ({ ({ s with AN := A1, nN := (out.length + 1), cN := c1, nodes := out ++ [(⟨c.node.id, ⟨c.node.cap.cpu, c.node.cap.mem⟩, true, false, c.node.boot, 1, 0⟩ : NodD)] } : StoreV) with allocs := aL, AE := AL, nE := nL, cE := cL, evals := lL } : StoreV).data.jobs ({ ({ s with AN := A1, nN := (out.length + 1), cN := c1, nodes := out ++ [(⟨c.node.id, ⟨c.node.cap.cpu, c.node.cap.mem⟩, true, false, c.node.boot, 1, 0⟩ : NodD)] } : StoreV) with allocs := aL, AE := AL, nE := nL, cE := cL, evals := lL } : StoreV).data
        rw [← sys_fold] at e2
        have e3 : ({ ({ s with AN := A1, nN := (out.length + 1), cN := c1, nodes := out ++ [(⟨c.node.id, ⟨c.node.cap.cpu, c.node.cap.mem⟩, true, false, c.node.boot, 1, 0⟩ : NodD)] } : StoreV) with allocs := aL, AE := AL, nE := nL, cE := cL, evals := lL } : StoreV).data.evals.length = lL.length := rfl
        have e4 : ({ ({ s with AN := A1, nN := (out.length + 1), cN := c1, nodes := out ++ [(⟨c.node.id, ⟨c.node.cap.cpu, c.node.cap.mem⟩, true, false, c.node.boot, 1, 0⟩ : NodD)] } : StoreV) with allocs := aL, AE := AL, nE := nL, cE := cL, evals := lL } : StoreV).data.jobs.length = s.jobs.length := by show (s.jobs.map (·.1)).length = _; simp
        omega
       have hdd := HFR.out
       rw [show Fsm.joins s.data ⟨c.node.id, ⟨c.node.cap.cpu, c.node.cap.mem⟩, true, false, c.node.boot, 1, 0⟩ = Fsm.came (Fsm.system (Fsm.lost ({ s.data with nodes := (Fsm.putL NodD.id ⟨c.node.id, ⟨c.node.cap.cpu, c.node.cap.mem⟩, true, false, c.node.boot, 1, 0⟩ s.nodes) } : StoreD) c.node.id)) from rfl, ← HDT.out, ← hdl, ← hd8] at hdd
       have HDD := Lib.hid hdd
       clear hdd hdl hd8 hk9
       have hw9 : w.heap.size + 1 + 1 + 1 < w9.heap.size := hE9.lt
       have hB9 : Blk w9 w.heap.size 30 ({ ({ ({ s with AN := A1, nN := (out.length + 1), cN := c1, nodes := out ++ [(⟨c.node.id, ⟨c.node.cap.cpu, c.node.cap.mem⟩, true, false, c.node.boot, 1, 0⟩ : NodD)] } : StoreV) with allocs := aL, AE := AL, nE := nL, cE := cL, evals := lL } : StoreV) with AE := A2, nE := n2, cE := c2, evals := l2 } : StoreV).arr := hB9
       have hO9 : OwnS base w9 ({ ({ ({ s with AN := A1, nN := (out.length + 1), cN := c1, nodes := out ++ [(⟨c.node.id, ⟨c.node.cap.cpu, c.node.cap.mem⟩, true, false, c.node.boot, 1, 0⟩ : NodD)] } : StoreV) with allocs := aL, AE := AL, nE := nL, cE := cL, evals := lL } : StoreV) with AE := A2, nE := n2, cE := c2, evals := l2 } : StoreV) := hO9
       refine zH (S := fun q => q = (w.heap.size + 1 + 1) ∨ q = (w.heap.size + 1 + 1 + 1) ∨ (vE ({ ({ ({ s with AN := A1, nN := (out.length + 1), cN := c1, nodes := out ++ [(⟨c.node.id, ⟨c.node.cap.cpu, c.node.cap.mem⟩, true, false, c.node.boot, 1, 0⟩ : NodD)] } : StoreV) with allocs := aL, AE := AL, nE := nL, cE := cL, evals := lL } : StoreV) with AE := A2, nE := n2, cE := c2, evals := l2 } : StoreV)).ownBlock = some q) (by kernel_rfl) (fun Wd hd hd0 => ?_)
       refine zT 0 (.agg ({ ({ ({ s with AN := A1, nN := (out.length + 1), cN := c1, nodes := out ++ [(⟨c.node.id, ⟨c.node.cap.cpu, c.node.cap.mem⟩, true, false, c.node.boot, 1, 0⟩ : NodD)] } : StoreV) with allocs := aL, AE := AL, nE := nL, cE := cL, evals := lL } : StoreV) with AE := A2, nE := n2, cE := c2, evals := l2 } : StoreV).arr) rfl (by kernel_rfl) (by rfl) hd (fun _ _ _ h => h) ?_ ?_
       ·intro W' hS'
        exact run_load_blk rfl STStore (by go_simp) (hB9.ext hS' (fun e => by rcases e with e | e | e; exact absurd e (by omega); exact absurd e (by omega); exact own_ne hO9.e hB9 (by decide) e)) rfl
       refine zT 2 (.pointer (some ⟨J, 6, none⟩)) rfl (by kernel_rfl) (by rfl) hd (fun _ _ _ h => h) ?_ ?_
       ·intro W' hS'
        go_simp
       refine zT 3 (.int .i64 1) rfl (by kernel_rfl) (by rfl) hd (fun _ _ _ h => h) ?_ ?_
       ·intro W' hS'
        have q5 : W'.cell? ⟨J, 6, none⟩ = some (.int .i64 1) := (hX9.ext hS' (fun e => by rcases e with e | e | e; exact absurd e (by omega); exact absurd e (by omega); exact own_ne hO9.e hX9 (by decide) e)).cell 6
        go_simp
       refine zT 4 (.agg (resArr 0 1)) rfl (by kernel_rfl) (by rfl) hd (fun _ _ _ h => h) ?_ ?_
       ·intro W' hS'
        go_simp
       simp only [Act.put, zA, zB, zC, zD, zE, zF]
       refine zO 1 (by kernel_rfl) ?_
       have hOd := hO9.keep0 hd0
       refine wpOp_call (f := 58) (args := #[.agg ({ ({ ({ s with AN := A1, nN := (out.length + 1), cN := c1, nodes := out ++ [(⟨c.node.id, ⟨c.node.cap.cpu, c.node.cap.mem⟩, true, false, c.node.boot, 1, 0⟩ : NodD)] } : StoreV) with allocs := aL, AE := AL, nE := nL, cE := cL, evals := lL } : StoreV) with AE := A2, nE := n2, cE := c2, evals := l2 } : StoreV).arr]) rfl (by rfl) (by go_simp) ((refCame base ({ ({ ({ s with AN := A1, nN := (out.length + 1), cN := c1, nodes := out ++ [(⟨c.node.id, ⟨c.node.cap.cpu, c.node.cap.mem⟩, true, false, c.node.boot, 1, 0⟩ : NodD)] } : StoreV) with allocs := aL, AE := AL, nE := nL, cE := cL, evals := lL } : StoreV) with AE := A2, nE := n2, cE := c2, evals := l2 } : StoreV) Wd hOd hE2).mono ?_)
       rintro e wb ⟨s3, rfl, hO10, hd10, _, hxb⟩
       have hd1 := hd.trans hxb (fun q hq e => .inr (.inr e))
       refine ⟨_, rfl, hd1, ?_⟩
       have hRb := (hR9.e0 hd0).ext hxb (fun e => own_ne hO9.e hR9 (by decide) e)
       have hEb := (hE9.e0 hd0).ext hxb (fun e => own_ne hO9.e hE9 (by decide) e)
       simp only [Act.put, zA, zB, zC, zD, zE, zF]
       refine zO 5 (by kernel_rfl) ?_
       refine wpOp_store (p := (w.heap.size + 1 + 1)) (cs := s3.arr) rfl (by rfl) rfl (by go_simp) (by go_simp) hRb rfl STStore rfl rfl (fun w2 hR2 hx2 => ?_)
       have hd2 := hd1.trans hx2 (fun q hq e => .inl e)
       refine ⟨hd2, ?_⟩
       simp only [Act.put, zA, zB, zC, zD, zE, zF]
       refine zO 6 (by kernel_rfl) ?_
       refine wpOp_store (p := (w.heap.size + 1 + 1 + 1)) (cs := resArr 0 1) rfl (by rfl) rfl (by go_simp) (by go_simp) (hEb.ext hx2 (fun e => absurd (show (w.heap.size + 1 + 1 + 1) = (w.heap.size + 1 + 1) from e) (by omega))) rfl STResult rfl rfl (fun w3 hE3 hx3' => ?_)
       have hx3 := hd2.trans hx3' (fun q hq e => .inr (.inl e))
       have hR3 := hR2.ext hx3' (fun e => absurd (show (w.heap.size + 1 + 1) = (w.heap.size + 1 + 1 + 1) from e) (by omega))
       refine ⟨hx3, wpAnyH_done (by kernel_rfl) ?_ _⟩
       simp only [Act.put, zA, zB, zC, zD, zE, zF]
       go_wp2
       have hOt := (hO10.keep hx2 (Apart.one hRb (by decide))).keep hx3' (Apart.one (hEb.ext hx2 (fun e => absurd (show (w.heap.size + 1 + 1 + 1) = (w.heap.size + 1 + 1) from e) (by omega))) (by decide))
       exact bodyPost_ret (results_cell2 rfl STStore STResult rfl rfl hR3 rfl hE3 rfl) rfl ⟨s3, ⟨0, 1, []⟩, rfl, hOt, by rw [HDD.out, hd10], rfl, hx9w.trans hx3 (fun b hb2 e => by rcases e with e | e | e; omega; omega; exact (RowB.of_own hO9.e (by decide) e).back hx9w hb2)⟩
  ·have hna : Fsm.nodeAt s.data c.d.node.id = some x := hf
   obtain ⟨hi1, hi2⟩ := List.getElem?_eq_some_iff.1 hxi
   obtain ⟨_, b, off, hAe, hce⟩ := hsn.get (Ext.refl Nothing wj) (k := i) (by have := hel.out; omega)
   rw [hi2] at hce
   have hk0 : (0 : Int) ≤ (i : Int) := by omega
   have hk1 : (i : Int) < s.nN := by have := hel.out; omega
   have hkg : decide ((0 : Int) ≤ (i : Int)) = true := by simp
   obtain ⟨x0, ⟨x1, x2⟩, x3, x4, x5, x6, x7⟩ := x
   have HI := Lib.hid hi
   have HA := Lib.hid hAe
   have HNA := Lib.hid hna
   have HH := Lib.hid (show Fsm.register s.data c.d = (if c.node.boot < x5 then Fsm.no s.data 33 else if (x5 == c.node.boot) = true then (if x3 = true then (s.data, ⟨0, x6, []⟩) else Fsm.no s.data 33) else (Fsm.joins s.data ⟨c.node.id, c.node.cap, true, x4, c.node.boot, wrap64 (x6 + 1), 0⟩, ⟨0, wrap64 (x6 + 1), []⟩)) by
    unfold Fsm.register; rw [show Fsm.nodeOk c.d.node = true from HOK.out, HNA.out]; rfl)
   clear hi hf hi2 hAe hxi hp hna
   go_upto_region 8 with (first | go_skip | ((with_reducible refine isW ?_); refine wpList_load_blk rfl 30 _ rfl STStore w.heap.size rfl s.arr (show Blk _ _ 30 _ from hBj) rfl ?_) | ((with_reducible refine isW ?_); refine wpList_load_at rfl 43 _ rfl STNode b (off + i * 8) rfl #[.int .i64 x0, .int .i64 x1, .int .i64 x2, .bool x3, .bool x4, .int .i64 x5, .int .i64 x6, .int .i64 x7] hceR rfl ?_) | (go_at_call 12; (with_reducible refine (refAtNode s.AN s.nN s.cN s.nodes c.node.id wj hsn hnN _ _ _ _ _ _ _ _).mono ?_); rintro e w4 ⟨rfl, hx4⟩; rw [HI.out]; have c4 : w4.cell? ⟨w.heap.size, 4, none⟩ = some (.slice (some ⟨b, off, none⟩) s.nN s.cN) := (by rw [← HA.out]; exact (hBj.e0 hx4).cell 4); have hceR : ∀ j u, (NodD.cells ⟨x0, ⟨x1, x2⟩, x3, x4, x5, x6, x7⟩)[j]? = some u → w4.cell? ⟨b, off + i * 8 + j, none⟩ = some u := fun j u hu => hx4.cell (hce j u hu) (fun e => e)))
   have hK0 : Blk (w4.alloc (.cells #[.int .i64 x0, .int .i64 x1, .int .i64 x2, .bool x3, .bool x4, .int .i64 x5, .int .i64 x6, .int .i64 x7] 43)) w4.heap.size 43 #[.int .i64 x0, .int .i64 x1, .int .i64 x2, .bool x3, .bool x4, .int .i64 x5, .int .i64 x6, .int .i64 x7] := Blk.new _ _ _
   have hxk : Ext Nothing w4 (w4.alloc (.cells #[.int .i64 x0, .int .i64 x1, .int .i64 x2, .bool x3, .bool x4, .int .i64 x5, .int .i64 x6, .int .i64 x7] 43)) := Ext.auto
   have hx4k := hx4.tr hxk
   have hBa := hBj.e0 hx4k
   have hJa := hJ0.e0 hx4k
   have hRa := hRj.e0 hx4k
   have hEa := hEj.e0 hx4k
   have hxa := hxj.tr hx4k
   have hzk : w.heap.size + 1 + 1 + 1 < w4.heap.size := by have := (hEj.e0 hx4).lt; exact this
   have hzj : J < w4.heap.size := (hJ0.e0 hx4).lt
   clear c4 hceR
   generalize w4.heap.size = K at hK0 hzk hzj ⊢
   generalize (w4.alloc (.cells #[.int .i64 x0, .int .i64 x1, .int .i64 x2, .bool x3, .bool x4, .int .i64 x5, .int .i64 x6, .int .i64 x7] 43)) = wk at hK0 hBa hJa hRa hEa hxa ⊢
   have k5 : wk.cell? ⟨K, 5, none⟩ = some (.int .i64 x5) := hK0.cell 5
   have j5 : wk.cell? ⟨J, 5, none⟩ = some (.int .i64 c.node.boot) := hJa.cell 5
   have k3 : wk.cell? ⟨K, 3, none⟩ = some (.bool x3) := hK0.cell 3
   by_cases hlt : c.node.boot < x5
   ·have hlt' : decide (c.node.boot < x5) = true := by simpa using hlt
    have HF := Lib.hid (HH.out.trans (if_pos hlt))
    go_upto_region 9 with (first | go_skip)
    refine zH (S := fun q => q = (w.heap.size + 1 + 1) ∨ q = (w.heap.size + 1 + 1 + 1)) (by kernel_rfl) (fun Wd hd hd0 => ?_)
    refine zT 0 (.agg s.arr) rfl (by kernel_rfl) (by rfl) hd (fun _ _ _ h => h) ?_ ?_
    ·intro W' hS'
     exact run_load_blk rfl STStore (by go_simp) (hBa.ext hS' (by omega)) rfl
    simp only [Act.put, zA, zB, zC, zD, zE, zF]
    refine zO 1 (by kernel_rfl) ?_
    refine wpOp_call (f := 16) (args := #[.int .i64 33]) rfl (by rfl) (by go_simp) ((refNo 33 Wd).mono ?_)
    rintro e wn ⟨rfl, hxn⟩
    have hd1 := hd.trans hxn (fun _ _ e => e.elim)
    have hd01 := hd0.tr hxn
    refine ⟨_, rfl, hd1, ?_⟩
    simp only [Act.put, zA, zB, zC, zD, zE, zF]
    refine zO 2 (by kernel_rfl) ?_
    refine wpOp_store (p := (w.heap.size + 1 + 1)) (cs := s.arr) rfl (by rfl) rfl (by go_simp) (by go_simp) (hRa.e0 hd01) rfl STStore rfl rfl (fun w2 hR2 hx2 => ?_)
    have hd2 := hd1.trans hx2 (fun q hq e => .inl e)
    refine ⟨hd2, ?_⟩
    simp only [Act.put, zA, zB, zC, zD, zE, zF]
    refine zO 3 (by kernel_rfl) ?_
    refine wpOp_store (p := (w.heap.size + 1 + 1 + 1)) (cs := resArr 33 0) rfl (by rfl) rfl (by go_simp) (by go_simp) ((hEa.e0 hd01).ext hx2 (fun e => absurd (show (w.heap.size + 1 + 1 + 1) = (w.heap.size + 1 + 1) from e) (by omega))) rfl STResult rfl rfl (fun w3 hE3 hx3' => ?_)
    have hx3 := hd2.trans hx3' (fun q hq e => .inr e)
    have hR3 := hR2.ext hx3' (fun e => absurd (show (w.heap.size + 1 + 1) = (w.heap.size + 1 + 1 + 1) from e) (by omega))
    refine ⟨hx3, wpAnyH_done (by kernel_rfl) ?_ _⟩
    simp only [Act.put, zA, zB, zC, zD, zE, zF]
    go_wp2
    have hxx : Ext Nothing w w3 := hxa.trans hx3 (fun b hb e => by omega)
    exact bodyPost_ret (results_cell2 rfl STStore STResult rfl rfl hR3 rfl hE3 rfl) rfl ⟨s, ⟨33, 0, []⟩, rfl, h.keep0 hxx, HF.out, rfl, hxx.mono (fun _ _ e => e.elim)⟩
   ·have hlt' : decide (c.node.boot < x5) = false := by simpa using hlt
    have HH2 := Lib.hid (HH.out.trans (if_neg hlt))
    cases heq : (x5 == c.node.boot) with
    | true =>
     have HH3 := Lib.hid (HH2.out.trans (if_pos heq))
     cases x3 with
     | true =>
      have HF := Lib.hid (HH3.out.trans (if_pos rfl))
      go_upto_region 12 with (first | go_skip)
      refine zH (S := fun q => q = (w.heap.size + 1 + 1) ∨ q = (w.heap.size + 1 + 1 + 1)) (by kernel_rfl) (fun Wd hd hd0 => ?_)
      refine zT 0 (.agg s.arr) rfl (by kernel_rfl) (by rfl) hd (fun _ _ _ h => h) ?_ ?_
      ·intro W' hS'
       exact run_load_blk rfl STStore (by go_simp) (hBa.ext hS' (by omega)) rfl
      refine zT 1 (.pointer (some ⟨K, 6, none⟩)) rfl (by kernel_rfl) (by rfl) hd (fun _ _ _ h => h) ?_ ?_
      ·intro W' hS'
       go_simp
      refine zT 2 (.int .i64 x6) rfl (by kernel_rfl) (by rfl) hd (fun _ _ _ h => h) ?_ ?_
      ·intro W' hS'
       have q5 : W'.cell? ⟨K, 6, none⟩ = some (.int .i64 x6) := (hK0.ext hS' (by omega)).cell 6
       go_simp
      refine zT 3 (.agg (resArr 0 x6)) rfl (by kernel_rfl) (by rfl) hd (fun _ _ _ h => h) ?_ ?_
      ·intro W' hS'
       go_simp
      have hd1 := hd
      have hxd := hxa.tr hd0
      simp only [Act.put, zA, zB, zC, zD, zE, zF]
      refine zO 4 (by kernel_rfl) ?_
      refine wpOp_store (p := (w.heap.size + 1 + 1)) (cs := s.arr) rfl (by rfl) rfl (by go_simp) (by go_simp) (hRa.e0 hd0) rfl STStore rfl rfl (fun w2 hR2 hx2 => ?_)
      have hd2 := hd1.trans hx2 (fun q hq e => .inl e)
      refine ⟨hd2, ?_⟩
      simp only [Act.put, zA, zB, zC, zD, zE, zF]
      refine zO 5 (by kernel_rfl) ?_
      refine wpOp_store (p := (w.heap.size + 1 + 1 + 1)) (cs := resArr 0 x6) rfl (by rfl) rfl (by go_simp) (by go_simp) ((hEa.e0 hd0).ext hx2 (fun e => absurd (show (w.heap.size + 1 + 1 + 1) = (w.heap.size + 1 + 1) from e) (by omega))) rfl STResult rfl rfl (fun w3 hE3 hx3' => ?_)
      have hx3 := hd2.trans hx3' (fun q hq e => .inr e)
      have hR3 := hR2.ext hx3' (fun e => absurd (show (w.heap.size + 1 + 1) = (w.heap.size + 1 + 1 + 1) from e) (by omega))
      refine ⟨hx3, wpAnyH_done (by kernel_rfl) ?_ _⟩
      simp only [Act.put, zA, zB, zC, zD, zE, zF]
      go_wp2
      have hxx : Ext Nothing w w3 := hxa.trans hx3 (fun b hb e => by omega)
      exact bodyPost_ret (results_cell2 rfl STStore STResult rfl rfl hR3 rfl hE3 rfl) rfl ⟨s, ⟨0, x6, []⟩, rfl, h.keep0 hxx, HF.out, rfl, hxx.mono (fun _ _ e => e.elim)⟩
     | false =>
      have HF := Lib.hid (HH3.out.trans (if_neg Bool.false_ne_true))
      go_upto_region 13 with (first | go_skip)
      refine zH (S := fun q => q = (w.heap.size + 1 + 1) ∨ q = (w.heap.size + 1 + 1 + 1)) (by kernel_rfl) (fun Wd hd hd0 => ?_)
      refine zT 0 (.agg s.arr) rfl (by kernel_rfl) (by rfl) hd (fun _ _ _ h => h) ?_ ?_
      ·intro W' hS'
       exact run_load_blk rfl STStore (by go_simp) (hBa.ext hS' (by omega)) rfl
      simp only [Act.put, zA, zB, zC, zD, zE, zF]
      refine zO 1 (by kernel_rfl) ?_
      refine wpOp_call (f := 16) (args := #[.int .i64 33]) rfl (by rfl) (by go_simp) ((refNo 33 Wd).mono ?_)
      rintro e wn ⟨rfl, hxn⟩
      have hd1 := hd.trans hxn (fun _ _ e => e.elim)
      have hd01 := hd0.tr hxn
      refine ⟨_, rfl, hd1, ?_⟩
      simp only [Act.put, zA, zB, zC, zD, zE, zF]
      refine zO 2 (by kernel_rfl) ?_
      refine wpOp_store (p := (w.heap.size + 1 + 1)) (cs := s.arr) rfl (by rfl) rfl (by go_simp) (by go_simp) (hRa.e0 hd01) rfl STStore rfl rfl (fun w2 hR2 hx2 => ?_)
      have hd2 := hd1.trans hx2 (fun q hq e => .inl e)
      refine ⟨hd2, ?_⟩
      simp only [Act.put, zA, zB, zC, zD, zE, zF]
      refine zO 3 (by kernel_rfl) ?_
      refine wpOp_store (p := (w.heap.size + 1 + 1 + 1)) (cs := resArr 33 0) rfl (by rfl) rfl (by go_simp) (by go_simp) ((hEa.e0 hd01).ext hx2 (fun e => absurd (show (w.heap.size + 1 + 1 + 1) = (w.heap.size + 1 + 1) from e) (by omega))) rfl STResult rfl rfl (fun w3 hE3 hx3' => ?_)
      have hx3 := hd2.trans hx3' (fun q hq e => .inr e)
      have hR3 := hR2.ext hx3' (fun e => absurd (show (w.heap.size + 1 + 1) = (w.heap.size + 1 + 1 + 1) from e) (by omega))
      refine ⟨hx3, wpAnyH_done (by kernel_rfl) ?_ _⟩
      simp only [Act.put, zA, zB, zC, zD, zE, zF]
      go_wp2
      have hxx : Ext Nothing w w3 := hxa.trans hx3 (fun b hb e => by omega)
      exact bodyPost_ret (results_cell2 rfl STStore STResult rfl rfl hR3 rfl hE3 rfl) rfl ⟨s, ⟨33, 0, []⟩, rfl, h.keep0 hxx, HF.out, rfl, hxx.mono (fun _ _ e => e.elim)⟩
    | false =>
     have HFR := Lib.hid (HH2.out.trans (if_neg (by rw [heq]; exact Bool.false_ne_true)))
     have k4 : wk.cell? ⟨K, 4, none⟩ = some (.bool x4) := hK0.cell 4
     have j4 : wk.cell? ⟨J, 4, none⟩ = some (.bool false) := hJa.cell 4
     have f4 : wk.frozen? ⟨J, 4, none⟩ = false := hJa.frozen 4
     have hs14 : Ext (fun q => q = J) wk (wk.setCell ⟨J, 4, none⟩ (.bool x4)) := Ext.set1 _ _ _ _
     have hJb := hJa.set_ 4 (.bool x4)
     have hKb := hK0.ext hs14 (fun e => absurd (show K = J from e) (by omega))
     have k6 : (wk.setCell ⟨J, 4, none⟩ (.bool x4)).cell? ⟨K, 6, none⟩ = some (.int .i64 x6) := hKb.cell 6
     have j6 : (wk.setCell ⟨J, 4, none⟩ (.bool x4)).cell? ⟨J, 6, none⟩ = some (.int .i64 1) := hJb.cell 6
     have f6 : (wk.setCell ⟨J, 4, none⟩ (.bool x4)).frozen? ⟨J, 6, none⟩ = false := hJb.frozen 6
     go_upto_region 16 with (first | go_skip)
     have hs15 : Ext (fun q => q = J) (wk.setCell ⟨J, 4, none⟩ (.bool x4)) ((wk.setCell ⟨J, 4, none⟩ (.bool x4)).setCell ⟨J, 6, none⟩ (.int .i64 (wrap64 (x6 + 1)))) := Ext.set1 _ _ _ _
     have hss := hs14.tr hs15
     have hJc : Blk ((wk.setCell ⟨J, 4, none⟩ (.bool x4)).setCell ⟨J, 6, none⟩ (.int .i64 (wrap64 (x6 + 1)))) J 43 #[.int .i64 c.node.id, .int .i64 c.node.cap.cpu, .int .i64 c.node.cap.mem, .bool true, .bool x4, .int .i64 c.node.boot, .int .i64 (wrap64 (x6 + 1)), .int .i64 0] := hJb.set_ 6 (.int .i64 (wrap64 (x6 + 1)))
     have hBc := hBa.ext hss (fun e => absurd (show w.heap.size = J from e) (by omega))
     have hRc := hRa.ext hss (fun e => absurd (show w.heap.size + 1 + 1 = J from e) (by omega))
     have hEc := hEa.ext hss (fun e => absurd (show w.heap.size + 1 + 1 + 1 = J from e) (by omega))
     have hxc : Ext Nothing w ((wk.setCell ⟨J, 4, none⟩ (.bool x4)).setCell ⟨J, 6, none⟩ (.int .i64 (wrap64 (x6 + 1)))) := hxa.trans hss (fun b hb e => absurd (show b = J from e) (by omega))
     clear hs14 hs15 hss hJb hKb k4 j4 f4 k6 j6 f6 k5 j5 k3 hK0 hJa hBa hRa hEa hxa
     generalize ((wk.setCell ⟨J, 4, none⟩ (.bool x4)).setCell ⟨J, 6, none⟩ (.int .i64 (wrap64 (x6 + 1)))) = wy at hJc hBc hRc hEc hxc ⊢
     go_wp2
     have hBW := hBc
     have hXW := hJc
     have hRW := hRc
     have hEW := hEc
     have hxW := hxc
     have hseW := (h.keep0 hxW).slN
     have hzW := hxW.size
     have hWE : w.heap.size + 1 + 1 + 1 < wy.heap.size := hEW.lt
     have hWJ : J < wy.heap.size := hXW.lt
     go_loopw [10, 11, 12] (fun v7 v8 ki wr => ∃ t : Nat, t ≤ s.nN ∧ ki = .int .i64 t ∧ ∃ (out : List NodD) (pb : Bool) (A : Option Addr) (cc : Nat), (s.nodes.take t).foldl (Fsm.putS NodD.id ⟨c.node.id, ⟨c.node.cap.cpu, c.node.cap.mem⟩, true, x4, c.node.boot, (wrap64 (x6 + 1)), 0⟩) ([], false) = (out, pb) ∧ out.length ≤ t + 1 ∧ v7 = .slice A out.length cc ∧ v8 = .bool pb ∧ wr.ownsRow wy.heap.size 43 8 (.slice A out.length cc) out.length (out.flatMap NodD.cells) ∧ Ext Nothing wy wr) (fun _ _ ki _ => s.nN - (intOf ki).toNat)
     case atStart => exact ⟨0, Nat.zero_le _, rfl, [], false, none, 0, rfl, Nat.zero_le _, rfl, rfl, World.ownsRow_nil _ _ _ _, Ext.refl _ _⟩
     case round =>
      obtain ⟨t, ht, rfl, out, pb, A, cc, hz, hlen, rfl, rfl, hown, hx⟩ := hrel
      have hX := hXW.e0 hx
      have hzr := hx.size
      have c6 : wr.cell? ⟨w.heap.size, 4, none⟩ = some (.slice s.AN s.nN s.cN) := (hBW.e0 hx).cell 4
      by_cases hlt : t < s.nN
      ·obtain ⟨hjn, b, off, hAe, hce⟩ := hseW.get (Ext.refl Nothing wy) hlt
       have hst := Fsm.putS_take (key := NodD.id) (x := ⟨c.node.id, ⟨c.node.cap.cpu, c.node.cap.mem⟩, true, x4, c.node.boot, (wrap64 (x6 + 1)), 0⟩) s.nodes t hjn
       have hlen2 := Fsm.putS_len_take (key := NodD.id) (x := ⟨c.node.id, ⟨c.node.cap.cpu, c.node.cap.mem⟩, true, x4, c.node.boot, (wrap64 (x6 + 1)), 0⟩) s.nodes (t + 1)
       rw [hst, hz] at hlen2
       rw [hz] at hst
       generalize s.nodes[t] = y at hce hst hlen2
       obtain ⟨y0, ⟨y1, y2⟩, y3, y4, y5, y6, y7⟩ := y
       rw [hAe] at c6
       have cW6 : wy.cell? ⟨w.heap.size, 4, none⟩ = some (.slice (some ⟨b, off, none⟩) s.nN s.cN) := by rw [← hAe]; exact hBW.cell 4
       clear hAe
       have hn1 : out.length < 67108864 := by have := hel.out; omega
       have hn2 : out.length + 1 < 67108864 := by have := hel.out; omega
       have hk0 : (0 : Int) ≤ (t : Int) := by omega
       have hk1 : (t : Int) < s.nN := by omega
       have HT := Lib.hid hlt
       have HL := Lib.hid hlen2
       have HS := Lib.hid hst
       clear hz hst hlen2 hlen
       have k0 : wr.cell? ⟨b, off + t * 8, none⟩ = some (.int .i64 y0) := hx.cell (hce 0 _ rfl) (fun e => e)
       have hxk : wr.cell? ⟨J, 0, none⟩ = some (.int .i64 c.node.id) := hX.cell 0
       have hceR : ∀ j u, (NodD.cells ⟨y0, ⟨y1, y2⟩, y3, y4, y5, y6, y7⟩)[j]? = some u → wr.cell? ⟨b, off + t * 8 + j, none⟩ = some u := fun j u hu => hx.cell (hce j u hu) (fun e => e)
       cases pb with
       | true =>
        by_cases he : y0 = c.node.id
        ·have hne : (y0 != c.node.id) = false := by simpa using he
         go_wp2_with (first | go_skip | go_guarded)
         go_quiet (fail)
         have hd := (Ext.refl Nothing wr).drewN nq
         generalize wr.drewN nq = wq at hd ⊢
         have hx := hx.tr hd
         have hown := own_ext hown hd (fun _ _ e => e)
         have hX := hX.e0 hd
         have hzr := hx.size
         have k0 := hd.c0 k0
         have hxk := hd.c0 hxk
         have hceR : ∀ j u, (NodD.cells ⟨y0, ⟨y1, y2⟩, y3, y4, y5, y6, y7⟩)[j]? = some u → wq.cell? ⟨b, off + t * 8 + j, none⟩ = some u := fun j u hu => hd.cell (hceR j u hu) (fun e => e)
         have c6 := hd.c0 c6
         clear hd
         go_wp2_with (first | go_skip | go_guarded)
         go_quiet (fail)
         have hd := (Ext.refl Nothing wq).drewN nq
         generalize wq.drewN nq = wv at hd ⊢
         have hx := hx.tr hd
         have hown := own_ext hown hd (fun _ _ e => e)
         have hX := hX.e0 hd
         have hzr := hx.size
         have k0 := hd.c0 k0
         have hxk := hd.c0 hxk
         have hceR : ∀ j u, (NodD.cells ⟨y0, ⟨y1, y2⟩, y3, y4, y5, y6, y7⟩)[j]? = some u → wv.cell? ⟨b, off + t * 8 + j, none⟩ = some u := fun j u hu => hd.cell (hceR j u hu) (fun e => e)
         have c6 := hd.c0 c6
         clear hd
         go_wp2_with (first | go_skip | go_guarded)
         go_roundw
         case rel => exact ⟨t + 1, HT.out, by go_num, out, true, A, cc, HS.out.trans (by simp [Fsm.putS, he]), by have := HL.out; simpa [Fsm.putS, he] using this, by simp, rfl, hown, hx⟩
         case measure => have := HT.out; simp [intOf]; omega
        ·have hne : (y0 != c.node.id) = true := by simpa using he
         go_wp2_with (first | go_skip | go_guarded)
         go_quiet (fail)
         have hd := (Ext.refl Nothing wr).drewN nq
         generalize wr.drewN nq = wq at hd ⊢
         have hx := hx.tr hd
         have hown := own_ext hown hd (fun _ _ e => e)
         have hX := hX.e0 hd
         have hzr := hx.size
         have k0 := hd.c0 k0
         have hxk := hd.c0 hxk
         have hceR : ∀ j u, (NodD.cells ⟨y0, ⟨y1, y2⟩, y3, y4, y5, y6, y7⟩)[j]? = some u → wq.cell? ⟨b, off + t * 8 + j, none⟩ = some u := fun j u hu => hd.cell (hceR j u hu) (fun e => e)
         have c6 := hd.c0 c6
         clear hd
         go_wp2_with (first | go_skip | go_guarded)
         go_quiet (fail)
         have hd := (Ext.refl Nothing wq).drewN nq
         generalize wq.drewN nq = wv at hd ⊢
         have hx := hx.tr hd
         have hown := own_ext hown hd (fun _ _ e => e)
         have hX := hX.e0 hd
         have hzr := hx.size
         have k0 := hd.c0 k0
         have hxk := hd.c0 hxk
         have hceR : ∀ j u, (NodD.cells ⟨y0, ⟨y1, y2⟩, y3, y4, y5, y6, y7⟩)[j]? = some u → wv.cell? ⟨b, off + t * 8 + j, none⟩ = some u := fun j u hu => hd.cell (hceR j u hu) (fun e => e)
         have c6 := hd.c0 c6
         clear hd
         go_wp2_with (first | go_skip | go_guarded | ((with_reducible refine isW ?_); refine wpList_load_at rfl 43 _ rfl STNode b (off + t * 8) rfl #[.int .i64 y0, .int .i64 y1, .int .i64 y2, .bool y3, .bool y4, .int .i64 y5, .int .i64 y6, .int .i64 y7] (by first | exact hce2 | exact hceR) rfl ?_) | ((with_reducible refine isW2 ?_); refine wpList_push rfl rfl 24 _ rfl _ _ rfl SRNode #[.int .i64 y0, .int .i64 y1, .int .i64 y2, .bool y3, .bool y4, .int .i64 y5, .int .i64 y6, .int .i64 y7] rfl rfl wy.heap.size (.slice A out.length cc) (out.length) (out.flatMap NodD.cells) rfl rfl hown rfl hn1 hzr ?_; intro A1 c1 wa owna hxa; have hwa : Ext Nothing wy wa := hx.trans hxa (fun q hq e => absurd (own_ge hown e) (by omega))))
         go_roundw
         case rel => exact ⟨t + 1, HT.out, by go_num, out ++ [⟨y0, ⟨y1, y2⟩, y3, y4, y5, y6, y7⟩], true, A1, c1, HS.out.trans (by simp [Fsm.putS, he]), by have := HL.out; simpa [Fsm.putS, he] using this, by simp, rfl, own_snoc owna rfl rfl, hwa⟩
         case measure => have := HT.out; simp [intOf]; omega
       | false =>
        by_cases hge : c.node.id ≤ y0
        ·have hge2 : decide (c.node.id ≤ y0) = true := by simpa using hge
         by_cases he : y0 = c.node.id
         ·have hne : (y0 != c.node.id) = false := by simpa using he
          go_wp2_with (first | go_skip | go_guarded)
          go_quiet (fail)
          have hd := (Ext.refl Nothing wr).drewN nq
          generalize wr.drewN nq = wq at hd ⊢
          have hx := hx.tr hd
          have hown := own_ext hown hd (fun _ _ e => e)
          have hX := hX.e0 hd
          have hzr := hx.size
          have k0 := hd.c0 k0
          have hxk := hd.c0 hxk
          have hceR : ∀ j u, (NodD.cells ⟨y0, ⟨y1, y2⟩, y3, y4, y5, y6, y7⟩)[j]? = some u → wq.cell? ⟨b, off + t * 8 + j, none⟩ = some u := fun j u hu => hd.cell (hceR j u hu) (fun e => e)
          have c6 := hd.c0 c6
          clear hd
          go_wp2_with (first | go_skip | go_guarded | ((with_reducible refine isW ?_); refine wpList_load_blk rfl 43 _ rfl STNode J rfl #[.int .i64 c.node.id, .int .i64 c.node.cap.cpu, .int .i64 c.node.cap.mem, .bool true, .bool x4, .int .i64 c.node.boot, .int .i64 (wrap64 (x6 + 1)), .int .i64 0] (show Blk _ _ 43 _ from by first | exact hX2 | exact hX) rfl ?_) | ((with_reducible refine isW2 ?_); refine wpList_push rfl rfl 24 _ rfl _ _ rfl SRNode #[.int .i64 c.node.id, .int .i64 c.node.cap.cpu, .int .i64 c.node.cap.mem, .bool true, .bool x4, .int .i64 c.node.boot, .int .i64 (wrap64 (x6 + 1)), .int .i64 0] rfl rfl wy.heap.size (.slice A out.length cc) (out.length) (out.flatMap NodD.cells) rfl rfl hown rfl hn1 hzr ?_; intro A1 c1 wa owna hxa; have hwa : Ext Nothing wy wa := hx.trans hxa (fun q hq e => absurd (own_ge hown e) (by omega)); have hX2 := hXW.e0 hwa; have hza := hwa.size; have c62 : wa.cell? ⟨w.heap.size, 4, none⟩ = some (.slice (some ⟨b, off, none⟩) s.nN s.cN) := hwa.c0 cW6; have hxk2 : wa.cell? ⟨J, 0, none⟩ = some (.int .i64 c.node.id) := hX2.cell 0; have k02 : wa.cell? ⟨b, off + t * 8, none⟩ = some (.int .i64 y0) := hwa.cell (hce 0 _ rfl) (fun e => e); have hce2 : ∀ j u, (NodD.cells ⟨y0, ⟨y1, y2⟩, y3, y4, y5, y6, y7⟩)[j]? = some u → wa.cell? ⟨b, off + t * 8 + j, none⟩ = some u := fun j u hu => hwa.cell (hce j u hu) (fun e => e)))
          go_quiet (fail)
          have hd := (Ext.refl Nothing wa).drewN nq
          generalize wa.drewN nq = wv at hd ⊢
          have hwa := hwa.tr hd
          have owna := own_ext owna hd (fun _ _ e => e)
          have hX2 := hX2.e0 hd
          have hza := hwa.size
          have k02 := hd.c0 k02
          have hxk2 := hd.c0 hxk2
          have hce2 : ∀ j u, (NodD.cells ⟨y0, ⟨y1, y2⟩, y3, y4, y5, y6, y7⟩)[j]? = some u → wv.cell? ⟨b, off + t * 8 + j, none⟩ = some u := fun j u hu => hd.cell (hce2 j u hu) (fun e => e)
          have c62 := hd.c0 c62
          clear hd
          go_wp2_with (first | go_skip | go_guarded)
          go_roundw
          case rel => exact ⟨t + 1, HT.out, by go_num, out ++ [⟨c.node.id, ⟨c.node.cap.cpu, c.node.cap.mem⟩, true, x4, c.node.boot, (wrap64 (x6 + 1)), 0⟩], true, A1, c1, HS.out.trans (by simp [Fsm.putS, he]), by have := HL.out; simpa [Fsm.putS, he] using this, by simp, rfl, own_snoc owna rfl rfl, hwa⟩
          case measure => have := HT.out; simp [intOf]; omega
         ·have hne : (y0 != c.node.id) = true := by simpa using he
          go_wp2_with (first | go_skip | go_guarded)
          go_quiet (fail)
          have hd := (Ext.refl Nothing wr).drewN nq
          generalize wr.drewN nq = wq at hd ⊢
          have hx := hx.tr hd
          have hown := own_ext hown hd (fun _ _ e => e)
          have hX := hX.e0 hd
          have hzr := hx.size
          have k0 := hd.c0 k0
          have hxk := hd.c0 hxk
          have hceR : ∀ j u, (NodD.cells ⟨y0, ⟨y1, y2⟩, y3, y4, y5, y6, y7⟩)[j]? = some u → wq.cell? ⟨b, off + t * 8 + j, none⟩ = some u := fun j u hu => hd.cell (hceR j u hu) (fun e => e)
          have c6 := hd.c0 c6
          clear hd
          go_wp2_with (first | go_skip | go_guarded | ((with_reducible refine isW ?_); refine wpList_load_blk rfl 43 _ rfl STNode J rfl #[.int .i64 c.node.id, .int .i64 c.node.cap.cpu, .int .i64 c.node.cap.mem, .bool true, .bool x4, .int .i64 c.node.boot, .int .i64 (wrap64 (x6 + 1)), .int .i64 0] (show Blk _ _ 43 _ from by first | exact hX2 | exact hX) rfl ?_) | ((with_reducible refine isW2 ?_); refine wpList_push rfl rfl 24 _ rfl _ _ rfl SRNode #[.int .i64 c.node.id, .int .i64 c.node.cap.cpu, .int .i64 c.node.cap.mem, .bool true, .bool x4, .int .i64 c.node.boot, .int .i64 (wrap64 (x6 + 1)), .int .i64 0] rfl rfl wy.heap.size (.slice A out.length cc) (out.length) (out.flatMap NodD.cells) rfl rfl hown rfl hn1 hzr ?_; intro A1 c1 wa owna hxa; have hwa : Ext Nothing wy wa := hx.trans hxa (fun q hq e => absurd (own_ge hown e) (by omega)); have hX2 := hXW.e0 hwa; have hza := hwa.size; have c62 : wa.cell? ⟨w.heap.size, 4, none⟩ = some (.slice (some ⟨b, off, none⟩) s.nN s.cN) := hwa.c0 cW6; have hxk2 : wa.cell? ⟨J, 0, none⟩ = some (.int .i64 c.node.id) := hX2.cell 0; have k02 : wa.cell? ⟨b, off + t * 8, none⟩ = some (.int .i64 y0) := hwa.cell (hce 0 _ rfl) (fun e => e); have hce2 : ∀ j u, (NodD.cells ⟨y0, ⟨y1, y2⟩, y3, y4, y5, y6, y7⟩)[j]? = some u → wa.cell? ⟨b, off + t * 8 + j, none⟩ = some u := fun j u hu => hwa.cell (hce j u hu) (fun e => e)))
          go_quiet (fail)
          have hd := (Ext.refl Nothing wa).drewN nq
          generalize wa.drewN nq = wv at hd ⊢
          have hwa := hwa.tr hd
          have owna := own_ext owna hd (fun _ _ e => e)
          have hX2 := hX2.e0 hd
          have hza := hwa.size
          have k02 := hd.c0 k02
          have hxk2 := hd.c0 hxk2
          have hce2 : ∀ j u, (NodD.cells ⟨y0, ⟨y1, y2⟩, y3, y4, y5, y6, y7⟩)[j]? = some u → wv.cell? ⟨b, off + t * 8 + j, none⟩ = some u := fun j u hu => hd.cell (hce2 j u hu) (fun e => e)
          have c62 := hd.c0 c62
          clear hd
          go_wp2_with (first | go_skip | go_guarded | ((with_reducible refine isW ?_); refine wpList_load_at rfl 43 _ rfl STNode b (off + t * 8) rfl #[.int .i64 y0, .int .i64 y1, .int .i64 y2, .bool y3, .bool y4, .int .i64 y5, .int .i64 y6, .int .i64 y7] (by first | exact hce2 | exact hceR) rfl ?_) | ((with_reducible refine isW2 ?_); refine wpList_push rfl rfl 24 _ rfl _ _ rfl SRNode #[.int .i64 y0, .int .i64 y1, .int .i64 y2, .bool y3, .bool y4, .int .i64 y5, .int .i64 y6, .int .i64 y7] rfl rfl wy.heap.size (.slice A1 (out.length + 1) c1) (out.length + 1) (out.flatMap NodD.cells ++ #[.int .i64 c.node.id, .int .i64 c.node.cap.cpu, .int .i64 c.node.cap.mem, .bool true, .bool x4, .int .i64 c.node.boot, .int .i64 (wrap64 (x6 + 1)), .int .i64 0].toList) rfl rfl owna rfl hn2 hza ?_; intro A2 c2 wb ownb hxb))
          go_roundw
          case rel => exact ⟨t + 1, HT.out, by go_num, out ++ [⟨c.node.id, ⟨c.node.cap.cpu, c.node.cap.mem⟩, true, x4, c.node.boot, (wrap64 (x6 + 1)), 0⟩] ++ [⟨y0, ⟨y1, y2⟩, y3, y4, y5, y6, y7⟩], true, A2, c2, HS.out.trans (by simp [Fsm.putS, he, hge]), by have := HL.out; simpa [Fsm.putS, he, hge] using this, by simp, rfl, own_snoc2 ownb rfl rfl rfl, hwa.trans hxb (fun q hq e => absurd (own_ge owna e) (by omega))⟩
          case measure => have := HT.out; simp [intOf]; omega
        ·have he : ¬ y0 = c.node.id := by omega
         have hne : (y0 != c.node.id) = true := by simpa using he
         have hge2 : decide (c.node.id ≤ y0) = false := by simpa using hge
         have HG := Lib.hid hge
         go_wp2_with (first | go_skip | go_guarded)
         go_quiet (fail)
         have hd := (Ext.refl Nothing wr).drewN nq
         generalize wr.drewN nq = wq at hd ⊢
         have hx := hx.tr hd
         have hown := own_ext hown hd (fun _ _ e => e)
         have hX := hX.e0 hd
         have hzr := hx.size
         have k0 := hd.c0 k0
         have hxk := hd.c0 hxk
         have hceR : ∀ j u, (NodD.cells ⟨y0, ⟨y1, y2⟩, y3, y4, y5, y6, y7⟩)[j]? = some u → wq.cell? ⟨b, off + t * 8 + j, none⟩ = some u := fun j u hu => hd.cell (hceR j u hu) (fun e => e)
         have c6 := hd.c0 c6
         clear hd
         go_wp2_with (first | go_skip | go_guarded)
         go_quiet (fail)
         have hd := (Ext.refl Nothing wq).drewN nq
         generalize wq.drewN nq = wv at hd ⊢
         have hx := hx.tr hd
         have hown := own_ext hown hd (fun _ _ e => e)
         have hX := hX.e0 hd
         have hzr := hx.size
         have k0 := hd.c0 k0
         have hxk := hd.c0 hxk
         have hceR : ∀ j u, (NodD.cells ⟨y0, ⟨y1, y2⟩, y3, y4, y5, y6, y7⟩)[j]? = some u → wv.cell? ⟨b, off + t * 8 + j, none⟩ = some u := fun j u hu => hd.cell (hceR j u hu) (fun e => e)
         have c6 := hd.c0 c6
         clear hd
         go_wp2_with (first | go_skip | go_guarded | ((with_reducible refine isW ?_); refine wpList_load_at rfl 43 _ rfl STNode b (off + t * 8) rfl #[.int .i64 y0, .int .i64 y1, .int .i64 y2, .bool y3, .bool y4, .int .i64 y5, .int .i64 y6, .int .i64 y7] (by first | exact hce2 | exact hceR) rfl ?_) | ((with_reducible refine isW2 ?_); refine wpList_push rfl rfl 24 _ rfl _ _ rfl SRNode #[.int .i64 y0, .int .i64 y1, .int .i64 y2, .bool y3, .bool y4, .int .i64 y5, .int .i64 y6, .int .i64 y7] rfl rfl wy.heap.size (.slice A out.length cc) (out.length) (out.flatMap NodD.cells) rfl rfl hown rfl hn1 hzr ?_; intro A1 c1 wa owna hxa; have hwa : Ext Nothing wy wa := hx.trans hxa (fun q hq e => absurd (own_ge hown e) (by omega))))
         go_roundw
         case rel => exact ⟨t + 1, HT.out, by go_num, out ++ [⟨y0, ⟨y1, y2⟩, y3, y4, y5, y6, y7⟩], false, A1, c1, HS.out.trans (by simp [Fsm.putS, he, HG.out]), by have := HL.out; simpa [Fsm.putS, he, HG.out, hge2] using this, by simp, rfl, own_snoc owna rfl rfl, hwa⟩
         case measure => have := HT.out; simp [intOf]; omega
      ·have hzz : (s.nodes.take t) = s.nodes := List.take_of_length_le (by have := hel.out; omega)
       rw [hzz] at hz
       have hfin := Fsm.put_fold (key := NodD.id) (x := ⟨c.node.id, ⟨c.node.cap.cpu, c.node.cap.mem⟩, true, x4, c.node.boot, (wrap64 (x6 + 1)), 0⟩) s.nodes []
       rw [hz, List.nil_append] at hfin
       have HF := Lib.hid hfin
       have hol : out.length < 67108864 := by have := hel.out; omega
       have hnl : ¬ ((t : Int) < s.nN) := by omega
       clear hz hfin hzz
       cases pb with
       | true =>
         have hB := hBW.e0 hx
         have fz : wr.frozen? ⟨w.heap.size, 4, none⟩ = false := hB.frozen 4
         go_upto_region 29 with (first | go_skip)
         have hxs : Ext (fun b => b = w.heap.size) wr (wr.setCell ⟨w.heap.size, 4, none⟩ (.slice A out.length cc)) := Ext.set1 _ _ _ _
         have hxw : Ext Nothing w (wr.setCell ⟨w.heap.size, 4, none⟩ (.slice A out.length cc)) := (hxW.tr hx).trans hxs (fun b hb e => absurd (show b = w.heap.size from e) (by omega))
         have hls : ({ s with AN := A, nN := out.length, cN := cc, nodes := out } : StoreV) = s.setN A cc (out) := by simp [StoreV.setN]
         have hO1 : OwnS base (wr.setCell ⟨w.heap.size, 4, none⟩ (.slice A out.length cc)) ({ s with AN := A, nN := out.length, cN := cc, nodes := out } : StoreV) := by
          rw [hls]
          exact h.wN hxw Apart.none (own_base (own_ext hown hxs (fun g hg e => by have := own_ge hown hg; have h9 : g = w.heap.size := e; omega)) (by omega))
         have hB1 : Blk (wr.setCell ⟨w.heap.size, 4, none⟩ (.slice A out.length cc)) w.heap.size 30 ({ s with AN := A, nN := out.length, cN := cc, nodes := out } : StoreV).arr := hB.set_ 4 _
         have hX1 : Blk (wr.setCell ⟨w.heap.size, 4, none⟩ (.slice A out.length cc)) J 43 _ := (hXW.e0 hx).ext hxs (fun e => absurd (show J = w.heap.size from e) (by omega))
         have hR1 : Blk (wr.setCell ⟨w.heap.size, 4, none⟩ (.slice A out.length cc)) (w.heap.size + 1 + 1) 30 _ := (hRW.e0 hx).ext hxs (fun e => absurd (show w.heap.size + 1 + 1 = w.heap.size from e) (by omega))
         have hE1 : Blk (wr.setCell ⟨w.heap.size, 4, none⟩ (.slice A out.length cc)) (w.heap.size + 1 + 1 + 1) 34 _ := (hEW.e0 hx).ext hxs (fun e => absurd (show w.heap.size + 1 + 1 + 1 = w.heap.size from e) (by omega))
         have hdat : ({ s with AN := A, nN := out.length, cN := cc, nodes := out } : StoreV).data = { s.data with nodes := (Fsm.putL NodD.id ⟨c.node.id, ⟨c.node.cap.cpu, c.node.cap.mem⟩, true, x4, c.node.boot, (wrap64 (x6 + 1)), 0⟩ s.nodes) } := by rw [← HF.out]; rfl
         have HDT := Lib.hid hdat
         clear hdat hls hxs
         generalize (wr.setCell ⟨w.heap.size, 4, none⟩ (.slice A out.length cc)) = wS at hO1 hB1 hX1 hR1 hE1 hxw ⊢
         have j0 : wS.cell? ⟨J, 0, none⟩ = some (.int .i64 c.node.id) := hX1.cell 0
         have hbS : base ≤ wS.heap.size := by have := hxw.size; omega
         have hge1 : ∀ b, (vA ({ s with AN := A, nN := out.length, cN := cc, nodes := out } : StoreV)).ownBlock = some b → base ≤ b ∧ b < w.heap.size := fun b hb => ⟨own_ge h.a hb, own_lt h.a hb⟩
         have hJv : ({ s with AN := A, nN := out.length, cN := cc, nodes := out } : StoreV).jobs.length ≤ 1048576 := hJ
         have hAv : ({ s with AN := A, nN := out.length, cN := cc, nodes := out } : StoreV).allocs.length ≤ 1048576 := hA
         have hEv : ({ s with AN := A, nN := out.length, cN := cc, nodes := out } : StoreV).evals.length ≤ 33554432 := by show s.evals.length ≤ _; omega
         go_upto_region 30 with (first | go_skip | ((with_reducible refine isW ?_); refine wpList_load_blk rfl 30 _ rfl STStore w.heap.size rfl ({ s with AN := A, nN := out.length, cN := cc, nodes := out } : StoreV).arr (show Blk _ _ 30 _ from hB1) rfl ?_) | (go_at_call 57; (with_reducible refine (refLost base ({ s with AN := A, nN := out.length, cN := cc, nodes := out } : StoreV) c.node.id wS hO1 hbS hJv hAv hEv).mono ?_); rintro e wl ⟨s1, rfl, hOl, hdl, hel2, ⟨aL, AL, nL, cL, lL, hlaL, rfl⟩, hxl⟩; have hbl : base ≤ wl.heap.size := (by have := hxl.size; omega); have hEl : lL.length ≤ 33554432 := (by have h1 : lL.length ≤ s.evals.length + s.allocs.length := hel2; omega); have hBl := hB1.ext hxl (fun e => by have := hge1 _ e; omega)) | (go_at_call 56; (with_reducible refine (refSystem base _ wl hOl hbl hJ hEl).mono ?_); rintro e w8 ⟨s2, rfl, hO8, hd8, ⟨A2, n2, c2, l2, rfl⟩, hx8⟩; have hB8 := hBl.e0 hx8) | ((with_reducible refine isW ?_); refine wpList_store_blk rfl 30 _ _ rfl STStore w.heap.size rfl _ rfl hB8 rfl rfl rfl ?_; intro w9 hB9 hx9))
         have hk9 : ∀ b : Nat, w.heap.size < b → b ≠ J → True := fun _ _ _ => trivial
         have hX9 := ((hX1.ext hxl (fun e => by have := hge1 _ e; omega)).e0 hx8).ext hx9 (fun e => absurd (show J = w.heap.size from e) (by omega))
         have hR9 := ((hR1.ext hxl (fun e => by have := hge1 _ e; omega)).e0 hx8).ext hx9 (fun e => absurd (show w.heap.size + 1 + 1 = w.heap.size from e) (by omega))
         have hE9 := ((hE1.ext hxl (fun e => by have := hge1 _ e; omega)).e0 hx8).ext hx9 (fun e => absurd (show w.heap.size + 1 + 1 + 1 = w.heap.size from e) (by omega))
         have hO9 := hO8.keep hx9 (Apart.one hB8 (by decide))
         have hx9w : Ext (RowB base w) w w9 := (((hxw.mono (S' := RowB base w) (fun _ _ e => e.elim)).trans hxl (fun b hb e => RowB.of_own h.a (by decide) e)).trans hx8 (fun _ _ e => e.elim)).trans hx9 (fun b h9 e => absurd (show b = w.heap.size from e) (by omega))
         have hE2 : l2.length < 67108862 := by
          have e1 : l2.length = (Fsm.system ({ ({ s with AN := A, nN := out.length, cN := cc, nodes := out } : StoreV) with allocs := aL, AE := AL, nE := nL, cE := cL, evals := lL } : StoreV).data).evals.length := congrArg (fun z : StoreD => z.evals.length) hd8
          have e2 := Fsm.fold_len (f := sysStep) sysStep_len ({ ({ s with AN := A, nN := out.length, cN := cc, nodes := out } : StoreV) with allocs := aL, AE := AL, nE := nL, cE := cL, evals := lL } : StoreV).data.jobs ({ ({ s with AN := A, nN := out.length, cN := cc, nodes := out } : StoreV) with allocs := aL, AE := AL, nE := nL, cE := cL, evals := lL } : StoreV).data
          rw [← sys_fold] at e2
          have e3 : ({ ({ s with AN := A, nN := out.length, cN := cc, nodes := out } : StoreV) with allocs := aL, AE := AL, nE := nL, cE := cL, evals := lL } : StoreV).data.evals.length = lL.length := rfl
          have e4 : ({ ({ s with AN := A, nN := out.length, cN := cc, nodes := out } : StoreV) with allocs := aL, AE := AL, nE := nL, cE := cL, evals := lL } : StoreV).data.jobs.length = s.jobs.length := by show (s.jobs.map (·.1)).length = _; simp
          omega
         have hdd := HFR.out
         rw [show Fsm.joins s.data ⟨c.node.id, ⟨c.node.cap.cpu, c.node.cap.mem⟩, true, x4, c.node.boot, (wrap64 (x6 + 1)), 0⟩ = Fsm.came (Fsm.system (Fsm.lost ({ s.data with nodes := (Fsm.putL NodD.id ⟨c.node.id, ⟨c.node.cap.cpu, c.node.cap.mem⟩, true, x4, c.node.boot, (wrap64 (x6 + 1)), 0⟩ s.nodes) } : StoreD) c.node.id)) from rfl, ← HDT.out, ← hdl, ← hd8] at hdd
         have HDD := Lib.hid hdd
         clear hdd hdl hd8 hk9
         have hw9 : w.heap.size + 1 + 1 + 1 < w9.heap.size := hE9.lt
         have hB9 : Blk w9 w.heap.size 30 ({ ({ ({ s with AN := A, nN := out.length, cN := cc, nodes := out } : StoreV) with allocs := aL, AE := AL, nE := nL, cE := cL, evals := lL } : StoreV) with AE := A2, nE := n2, cE := c2, evals := l2 } : StoreV).arr := hB9
         have hO9 : OwnS base w9 ({ ({ ({ s with AN := A, nN := out.length, cN := cc, nodes := out } : StoreV) with allocs := aL, AE := AL, nE := nL, cE := cL, evals := lL } : StoreV) with AE := A2, nE := n2, cE := c2, evals := l2 } : StoreV) := hO9
         refine zH (S := fun q => q = (w.heap.size + 1 + 1) ∨ q = (w.heap.size + 1 + 1 + 1) ∨ (vE ({ ({ ({ s with AN := A, nN := out.length, cN := cc, nodes := out } : StoreV) with allocs := aL, AE := AL, nE := nL, cE := cL, evals := lL } : StoreV) with AE := A2, nE := n2, cE := c2, evals := l2 } : StoreV)).ownBlock = some q) (by kernel_rfl) (fun Wd hd hd0 => ?_)
         refine zT 0 (.agg ({ ({ ({ s with AN := A, nN := out.length, cN := cc, nodes := out } : StoreV) with allocs := aL, AE := AL, nE := nL, cE := cL, evals := lL } : StoreV) with AE := A2, nE := n2, cE := c2, evals := l2 } : StoreV).arr) rfl (by kernel_rfl) (by rfl) hd (fun _ _ _ h => h) ?_ ?_
         ·intro W' hS'
          exact run_load_blk rfl STStore (by go_simp) (hB9.ext hS' (fun e => by rcases e with e | e | e; exact absurd e (by omega); exact absurd e (by omega); exact own_ne hO9.e hB9 (by decide) e)) rfl
         refine zT 2 (.pointer (some ⟨J, 6, none⟩)) rfl (by kernel_rfl) (by rfl) hd (fun _ _ _ h => h) ?_ ?_
         ·intro W' hS'
          go_simp
         refine zT 3 (.int .i64 (wrap64 (x6 + 1))) rfl (by kernel_rfl) (by rfl) hd (fun _ _ _ h => h) ?_ ?_
         ·intro W' hS'
          have q5 : W'.cell? ⟨J, 6, none⟩ = some (.int .i64 (wrap64 (x6 + 1))) := (hX9.ext hS' (fun e => by rcases e with e | e | e; exact absurd e (by omega); exact absurd e (by omega); exact own_ne hO9.e hX9 (by decide) e)).cell 6
          go_simp
         refine zT 4 (.agg (resArr 0 (wrap64 (x6 + 1)))) rfl (by kernel_rfl) (by rfl) hd (fun _ _ _ h => h) ?_ ?_
         ·intro W' hS'
          go_simp
         simp only [Act.put, zA, zB, zC, zD, zE, zF]
         refine zO 1 (by kernel_rfl) ?_
         have hOd := hO9.keep0 hd0
         refine wpOp_call (f := 58) (args := #[.agg ({ ({ ({ s with AN := A, nN := out.length, cN := cc, nodes := out } : StoreV) with allocs := aL, AE := AL, nE := nL, cE := cL, evals := lL } : StoreV) with AE := A2, nE := n2, cE := c2, evals := l2 } : StoreV).arr]) rfl (by rfl) (by go_simp) ((refCame base ({ ({ ({ s with AN := A, nN := out.length, cN := cc, nodes := out } : StoreV) with allocs := aL, AE := AL, nE := nL, cE := cL, evals := lL } : StoreV) with AE := A2, nE := n2, cE := c2, evals := l2 } : StoreV) Wd hOd hE2).mono ?_)
         rintro e wb ⟨s3, rfl, hO10, hd10, _, hxb⟩
         have hd1 := hd.trans hxb (fun q hq e => .inr (.inr e))
         refine ⟨_, rfl, hd1, ?_⟩
         have hRb := (hR9.e0 hd0).ext hxb (fun e => own_ne hO9.e hR9 (by decide) e)
         have hEb := (hE9.e0 hd0).ext hxb (fun e => own_ne hO9.e hE9 (by decide) e)
         simp only [Act.put, zA, zB, zC, zD, zE, zF]
         refine zO 5 (by kernel_rfl) ?_
         refine wpOp_store (p := (w.heap.size + 1 + 1)) (cs := s3.arr) rfl (by rfl) rfl (by go_simp) (by go_simp) hRb rfl STStore rfl rfl (fun w2 hR2 hx2 => ?_)
         have hd2 := hd1.trans hx2 (fun q hq e => .inl e)
         refine ⟨hd2, ?_⟩
         simp only [Act.put, zA, zB, zC, zD, zE, zF]
         refine zO 6 (by kernel_rfl) ?_
         refine wpOp_store (p := (w.heap.size + 1 + 1 + 1)) (cs := resArr 0 (wrap64 (x6 + 1))) rfl (by rfl) rfl (by go_simp) (by go_simp) (hEb.ext hx2 (fun e => absurd (show (w.heap.size + 1 + 1 + 1) = (w.heap.size + 1 + 1) from e) (by omega))) rfl STResult rfl rfl (fun w3 hE3 hx3' => ?_)
         have hx3 := hd2.trans hx3' (fun q hq e => .inr (.inl e))
         have hR3 := hR2.ext hx3' (fun e => absurd (show (w.heap.size + 1 + 1) = (w.heap.size + 1 + 1 + 1) from e) (by omega))
         refine ⟨hx3, wpAnyH_done (by kernel_rfl) ?_ _⟩
         simp only [Act.put, zA, zB, zC, zD, zE, zF]
         go_wp2
         have hOt := (hO10.keep hx2 (Apart.one hRb (by decide))).keep hx3' (Apart.one (hEb.ext hx2 (fun e => absurd (show (w.heap.size + 1 + 1 + 1) = (w.heap.size + 1 + 1) from e) (by omega))) (by decide))
         exact bodyPost_ret (results_cell2 rfl STStore STResult rfl rfl hR3 rfl hE3 rfl) rfl ⟨s3, ⟨0, (wrap64 (x6 + 1)), []⟩, rfl, hOt, by rw [HDD.out, hd10], rfl, hx9w.trans hx3 (fun b hb2 e => by rcases e with e | e | e; omega; omega; exact (RowB.of_own hO9.e (by decide) e).back hx9w hb2)⟩
       | false =>
         go_upto_region 29 with (first | go_skip | ((with_reducible refine isW ?_); refine wpList_load_blk rfl 43 _ rfl STNode J rfl #[.int .i64 c.node.id, .int .i64 c.node.cap.cpu, .int .i64 c.node.cap.mem, .bool true, .bool x4, .int .i64 c.node.boot, .int .i64 (wrap64 (x6 + 1)), .int .i64 0] (show Blk _ _ 43 _ from hX) rfl ?_) | ((with_reducible refine isW2 ?_); refine wpList_push rfl rfl 24 _ rfl _ _ rfl SRNode #[.int .i64 c.node.id, .int .i64 c.node.cap.cpu, .int .i64 c.node.cap.mem, .bool true, .bool x4, .int .i64 c.node.boot, .int .i64 (wrap64 (x6 + 1)), .int .i64 0] rfl rfl wy.heap.size (.slice A out.length cc) (out.length) (out.flatMap NodD.cells) rfl rfl hown rfl hol hzr ?_; intro A1 c1 wa owna hxa; have hwa : Ext Nothing wy wa := hx.trans hxa (fun q hq e => absurd (own_ge hown e) (by omega)); have hB := hBW.e0 hwa; have fz : wa.frozen? ⟨w.heap.size, 4, none⟩ = false := hB.frozen 4; have c4a : wa.cell? ⟨w.heap.size, 4, none⟩ = some (.slice s.AN s.nN s.cN) := hB.cell 4))
         have ho1 := own_snoc (x := (⟨c.node.id, ⟨c.node.cap.cpu, c.node.cap.mem⟩, true, x4, c.node.boot, (wrap64 (x6 + 1)), 0⟩ : NodD)) owna rfl rfl
         have hxs : Ext (fun b => b = w.heap.size) wa (wa.setCell ⟨w.heap.size, 4, none⟩ (.slice A1 (out.length + 1) c1)) := Ext.set1 _ _ _ _
         have hxw : Ext Nothing w (wa.setCell ⟨w.heap.size, 4, none⟩ (.slice A1 (out.length + 1) c1)) := (hxW.tr hwa).trans hxs (fun b hb e => absurd (show b = w.heap.size from e) (by omega))
         have hls : ({ s with AN := A1, nN := (out.length + 1), cN := c1, nodes := out ++ [(⟨c.node.id, ⟨c.node.cap.cpu, c.node.cap.mem⟩, true, x4, c.node.boot, (wrap64 (x6 + 1)), 0⟩ : NodD)] } : StoreV) = s.setN A1 c1 (out ++ [(⟨c.node.id, ⟨c.node.cap.cpu, c.node.cap.mem⟩, true, x4, c.node.boot, (wrap64 (x6 + 1)), 0⟩ : NodD)]) := by simp [StoreV.setN]
         have hO1 : OwnS base (wa.setCell ⟨w.heap.size, 4, none⟩ (.slice A1 (out.length + 1) c1)) ({ s with AN := A1, nN := (out.length + 1), cN := c1, nodes := out ++ [(⟨c.node.id, ⟨c.node.cap.cpu, c.node.cap.mem⟩, true, x4, c.node.boot, (wrap64 (x6 + 1)), 0⟩ : NodD)] } : StoreV) := by
          rw [hls]
          exact h.wN hxw Apart.none (own_base (own_ext ho1 hxs (fun g hg e => by have := own_ge ho1 hg; have h9 : g = w.heap.size := e; omega)) (by omega))
         have hB1 : Blk (wa.setCell ⟨w.heap.size, 4, none⟩ (.slice A1 (out.length + 1) c1)) w.heap.size 30 ({ s with AN := A1, nN := (out.length + 1), cN := c1, nodes := out ++ [(⟨c.node.id, ⟨c.node.cap.cpu, c.node.cap.mem⟩, true, x4, c.node.boot, (wrap64 (x6 + 1)), 0⟩ : NodD)] } : StoreV).arr := hB.set_ 4 _
         have hX1 : Blk (wa.setCell ⟨w.heap.size, 4, none⟩ (.slice A1 (out.length + 1) c1)) J 43 _ := (hXW.e0 hwa).ext hxs (fun e => absurd (show J = w.heap.size from e) (by omega))
         have hR1 : Blk (wa.setCell ⟨w.heap.size, 4, none⟩ (.slice A1 (out.length + 1) c1)) (w.heap.size + 1 + 1) 30 _ := (hRW.e0 hwa).ext hxs (fun e => absurd (show w.heap.size + 1 + 1 = w.heap.size from e) (by omega))
         have hE1 : Blk (wa.setCell ⟨w.heap.size, 4, none⟩ (.slice A1 (out.length + 1) c1)) (w.heap.size + 1 + 1 + 1) 34 _ := (hEW.e0 hwa).ext hxs (fun e => absurd (show w.heap.size + 1 + 1 + 1 = w.heap.size from e) (by omega))
         have hdat : ({ s with AN := A1, nN := (out.length + 1), cN := c1, nodes := out ++ [(⟨c.node.id, ⟨c.node.cap.cpu, c.node.cap.mem⟩, true, x4, c.node.boot, (wrap64 (x6 + 1)), 0⟩ : NodD)] } : StoreV).data = { s.data with nodes := (Fsm.putL NodD.id ⟨c.node.id, ⟨c.node.cap.cpu, c.node.cap.mem⟩, true, x4, c.node.boot, (wrap64 (x6 + 1)), 0⟩ s.nodes) } := by rw [← HF.out]; rfl
         have HDT := Lib.hid hdat
         clear hdat hls hxs
         generalize (wa.setCell ⟨w.heap.size, 4, none⟩ (.slice A1 (out.length + 1) c1)) = wS at hO1 hB1 hX1 hR1 hE1 hxw ⊢
         have j0 : wS.cell? ⟨J, 0, none⟩ = some (.int .i64 c.node.id) := hX1.cell 0
         have hbS : base ≤ wS.heap.size := by have := hxw.size; omega
         have hge1 : ∀ b, (vA ({ s with AN := A1, nN := (out.length + 1), cN := c1, nodes := out ++ [(⟨c.node.id, ⟨c.node.cap.cpu, c.node.cap.mem⟩, true, x4, c.node.boot, (wrap64 (x6 + 1)), 0⟩ : NodD)] } : StoreV)).ownBlock = some b → base ≤ b ∧ b < w.heap.size := fun b hb => ⟨own_ge h.a hb, own_lt h.a hb⟩
         have hJv : ({ s with AN := A1, nN := (out.length + 1), cN := c1, nodes := out ++ [(⟨c.node.id, ⟨c.node.cap.cpu, c.node.cap.mem⟩, true, x4, c.node.boot, (wrap64 (x6 + 1)), 0⟩ : NodD)] } : StoreV).jobs.length ≤ 1048576 := hJ
         have hAv : ({ s with AN := A1, nN := (out.length + 1), cN := c1, nodes := out ++ [(⟨c.node.id, ⟨c.node.cap.cpu, c.node.cap.mem⟩, true, x4, c.node.boot, (wrap64 (x6 + 1)), 0⟩ : NodD)] } : StoreV).allocs.length ≤ 1048576 := hA
         have hEv : ({ s with AN := A1, nN := (out.length + 1), cN := c1, nodes := out ++ [(⟨c.node.id, ⟨c.node.cap.cpu, c.node.cap.mem⟩, true, x4, c.node.boot, (wrap64 (x6 + 1)), 0⟩ : NodD)] } : StoreV).evals.length ≤ 33554432 := by show s.evals.length ≤ _; omega
         go_upto_region 30 with (first | go_skip | ((with_reducible refine isW ?_); refine wpList_load_blk rfl 30 _ rfl STStore w.heap.size rfl ({ s with AN := A1, nN := (out.length + 1), cN := c1, nodes := out ++ [(⟨c.node.id, ⟨c.node.cap.cpu, c.node.cap.mem⟩, true, x4, c.node.boot, (wrap64 (x6 + 1)), 0⟩ : NodD)] } : StoreV).arr (show Blk _ _ 30 _ from hB1) rfl ?_) | (go_at_call 57; (with_reducible refine (refLost base ({ s with AN := A1, nN := (out.length + 1), cN := c1, nodes := out ++ [(⟨c.node.id, ⟨c.node.cap.cpu, c.node.cap.mem⟩, true, x4, c.node.boot, (wrap64 (x6 + 1)), 0⟩ : NodD)] } : StoreV) c.node.id wS hO1 hbS hJv hAv hEv).mono ?_); rintro e wl ⟨s1, rfl, hOl, hdl, hel2, ⟨aL, AL, nL, cL, lL, hlaL, rfl⟩, hxl⟩; have hbl : base ≤ wl.heap.size := (by have := hxl.size; omega); have hEl : lL.length ≤ 33554432 := (by have h1 : lL.length ≤ s.evals.length + s.allocs.length := hel2; omega); have hBl := hB1.ext hxl (fun e => by have := hge1 _ e; omega)) | (go_at_call 56; (with_reducible refine (refSystem base _ wl hOl hbl hJ hEl).mono ?_); rintro e w8 ⟨s2, rfl, hO8, hd8, ⟨A2, n2, c2, l2, rfl⟩, hx8⟩; have hB8 := hBl.e0 hx8) | ((with_reducible refine isW ?_); refine wpList_store_blk rfl 30 _ _ rfl STStore w.heap.size rfl _ rfl hB8 rfl rfl rfl ?_; intro w9 hB9 hx9))
         have hk9 : ∀ b : Nat, w.heap.size < b → b ≠ J → True := fun _ _ _ => trivial
         have hX9 := ((hX1.ext hxl (fun e => by have := hge1 _ e; omega)).e0 hx8).ext hx9 (fun e => absurd (show J = w.heap.size from e) (by omega))
         have hR9 := ((hR1.ext hxl (fun e => by have := hge1 _ e; omega)).e0 hx8).ext hx9 (fun e => absurd (show w.heap.size + 1 + 1 = w.heap.size from e) (by omega))
         have hE9 := ((hE1.ext hxl (fun e => by have := hge1 _ e; omega)).e0 hx8).ext hx9 (fun e => absurd (show w.heap.size + 1 + 1 + 1 = w.heap.size from e) (by omega))
         have hO9 := hO8.keep hx9 (Apart.one hB8 (by decide))
         have hx9w : Ext (RowB base w) w w9 := (((hxw.mono (S' := RowB base w) (fun _ _ e => e.elim)).trans hxl (fun b hb e => RowB.of_own h.a (by decide) e)).trans hx8 (fun _ _ e => e.elim)).trans hx9 (fun b h9 e => absurd (show b = w.heap.size from e) (by omega))
         have hE2 : l2.length < 67108862 := by
          have e1 : l2.length = (Fsm.system ({ ({ s with AN := A1, nN := (out.length + 1), cN := c1, nodes := out ++ [(⟨c.node.id, ⟨c.node.cap.cpu, c.node.cap.mem⟩, true, x4, c.node.boot, (wrap64 (x6 + 1)), 0⟩ : NodD)] } : StoreV) with allocs := aL, AE := AL, nE := nL, cE := cL, evals := lL } : StoreV).data).evals.length := congrArg (fun z : StoreD => z.evals.length) hd8
          have e2 := Fsm.fold_len (f := sysStep) sysStep_len ({ ({ s with AN := A1, nN := (out.length + 1), cN := c1, nodes := out ++ [(⟨c.node.id, ⟨c.node.cap.cpu, c.node.cap.mem⟩, true, x4, c.node.boot, (wrap64 (x6 + 1)), 0⟩ : NodD)] } : StoreV) with allocs := aL, AE := AL, nE := nL, cE := cL, evals := lL } : StoreV).data.jobs ({ ({ s with AN := A1, nN := (out.length + 1), cN := c1, nodes := out ++ [(⟨c.node.id, ⟨c.node.cap.cpu, c.node.cap.mem⟩, true, x4, c.node.boot, (wrap64 (x6 + 1)), 0⟩ : NodD)] } : StoreV) with allocs := aL, AE := AL, nE := nL, cE := cL, evals := lL } : StoreV).data
          rw [← sys_fold] at e2
          have e3 : ({ ({ s with AN := A1, nN := (out.length + 1), cN := c1, nodes := out ++ [(⟨c.node.id, ⟨c.node.cap.cpu, c.node.cap.mem⟩, true, x4, c.node.boot, (wrap64 (x6 + 1)), 0⟩ : NodD)] } : StoreV) with allocs := aL, AE := AL, nE := nL, cE := cL, evals := lL } : StoreV).data.evals.length = lL.length := rfl
          have e4 : ({ ({ s with AN := A1, nN := (out.length + 1), cN := c1, nodes := out ++ [(⟨c.node.id, ⟨c.node.cap.cpu, c.node.cap.mem⟩, true, x4, c.node.boot, (wrap64 (x6 + 1)), 0⟩ : NodD)] } : StoreV) with allocs := aL, AE := AL, nE := nL, cE := cL, evals := lL } : StoreV).data.jobs.length = s.jobs.length := by show (s.jobs.map (·.1)).length = _; simp
          omega
         have hdd := HFR.out
         rw [show Fsm.joins s.data ⟨c.node.id, ⟨c.node.cap.cpu, c.node.cap.mem⟩, true, x4, c.node.boot, (wrap64 (x6 + 1)), 0⟩ = Fsm.came (Fsm.system (Fsm.lost ({ s.data with nodes := (Fsm.putL NodD.id ⟨c.node.id, ⟨c.node.cap.cpu, c.node.cap.mem⟩, true, x4, c.node.boot, (wrap64 (x6 + 1)), 0⟩ s.nodes) } : StoreD) c.node.id)) from rfl, ← HDT.out, ← hdl, ← hd8] at hdd
         have HDD := Lib.hid hdd
         clear hdd hdl hd8 hk9
         have hw9 : w.heap.size + 1 + 1 + 1 < w9.heap.size := hE9.lt
         have hB9 : Blk w9 w.heap.size 30 ({ ({ ({ s with AN := A1, nN := (out.length + 1), cN := c1, nodes := out ++ [(⟨c.node.id, ⟨c.node.cap.cpu, c.node.cap.mem⟩, true, x4, c.node.boot, (wrap64 (x6 + 1)), 0⟩ : NodD)] } : StoreV) with allocs := aL, AE := AL, nE := nL, cE := cL, evals := lL } : StoreV) with AE := A2, nE := n2, cE := c2, evals := l2 } : StoreV).arr := hB9
         have hO9 : OwnS base w9 ({ ({ ({ s with AN := A1, nN := (out.length + 1), cN := c1, nodes := out ++ [(⟨c.node.id, ⟨c.node.cap.cpu, c.node.cap.mem⟩, true, x4, c.node.boot, (wrap64 (x6 + 1)), 0⟩ : NodD)] } : StoreV) with allocs := aL, AE := AL, nE := nL, cE := cL, evals := lL } : StoreV) with AE := A2, nE := n2, cE := c2, evals := l2 } : StoreV) := hO9
         refine zH (S := fun q => q = (w.heap.size + 1 + 1) ∨ q = (w.heap.size + 1 + 1 + 1) ∨ (vE ({ ({ ({ s with AN := A1, nN := (out.length + 1), cN := c1, nodes := out ++ [(⟨c.node.id, ⟨c.node.cap.cpu, c.node.cap.mem⟩, true, x4, c.node.boot, (wrap64 (x6 + 1)), 0⟩ : NodD)] } : StoreV) with allocs := aL, AE := AL, nE := nL, cE := cL, evals := lL } : StoreV) with AE := A2, nE := n2, cE := c2, evals := l2 } : StoreV)).ownBlock = some q) (by kernel_rfl) (fun Wd hd hd0 => ?_)
         refine zT 0 (.agg ({ ({ ({ s with AN := A1, nN := (out.length + 1), cN := c1, nodes := out ++ [(⟨c.node.id, ⟨c.node.cap.cpu, c.node.cap.mem⟩, true, x4, c.node.boot, (wrap64 (x6 + 1)), 0⟩ : NodD)] } : StoreV) with allocs := aL, AE := AL, nE := nL, cE := cL, evals := lL } : StoreV) with AE := A2, nE := n2, cE := c2, evals := l2 } : StoreV).arr) rfl (by kernel_rfl) (by rfl) hd (fun _ _ _ h => h) ?_ ?_
         ·intro W' hS'
          exact run_load_blk rfl STStore (by go_simp) (hB9.ext hS' (fun e => by rcases e with e | e | e; exact absurd e (by omega); exact absurd e (by omega); exact own_ne hO9.e hB9 (by decide) e)) rfl
         refine zT 2 (.pointer (some ⟨J, 6, none⟩)) rfl (by kernel_rfl) (by rfl) hd (fun _ _ _ h => h) ?_ ?_
         ·intro W' hS'
          go_simp
         refine zT 3 (.int .i64 (wrap64 (x6 + 1))) rfl (by kernel_rfl) (by rfl) hd (fun _ _ _ h => h) ?_ ?_
         ·intro W' hS'
          have q5 : W'.cell? ⟨J, 6, none⟩ = some (.int .i64 (wrap64 (x6 + 1))) := (hX9.ext hS' (fun e => by rcases e with e | e | e; exact absurd e (by omega); exact absurd e (by omega); exact own_ne hO9.e hX9 (by decide) e)).cell 6
          go_simp
         refine zT 4 (.agg (resArr 0 (wrap64 (x6 + 1)))) rfl (by kernel_rfl) (by rfl) hd (fun _ _ _ h => h) ?_ ?_
         ·intro W' hS'
          go_simp
         simp only [Act.put, zA, zB, zC, zD, zE, zF]
         refine zO 1 (by kernel_rfl) ?_
         have hOd := hO9.keep0 hd0
         refine wpOp_call (f := 58) (args := #[.agg ({ ({ ({ s with AN := A1, nN := (out.length + 1), cN := c1, nodes := out ++ [(⟨c.node.id, ⟨c.node.cap.cpu, c.node.cap.mem⟩, true, x4, c.node.boot, (wrap64 (x6 + 1)), 0⟩ : NodD)] } : StoreV) with allocs := aL, AE := AL, nE := nL, cE := cL, evals := lL } : StoreV) with AE := A2, nE := n2, cE := c2, evals := l2 } : StoreV).arr]) rfl (by rfl) (by go_simp) ((refCame base ({ ({ ({ s with AN := A1, nN := (out.length + 1), cN := c1, nodes := out ++ [(⟨c.node.id, ⟨c.node.cap.cpu, c.node.cap.mem⟩, true, x4, c.node.boot, (wrap64 (x6 + 1)), 0⟩ : NodD)] } : StoreV) with allocs := aL, AE := AL, nE := nL, cE := cL, evals := lL } : StoreV) with AE := A2, nE := n2, cE := c2, evals := l2 } : StoreV) Wd hOd hE2).mono ?_)
         rintro e wb ⟨s3, rfl, hO10, hd10, _, hxb⟩
         have hd1 := hd.trans hxb (fun q hq e => .inr (.inr e))
         refine ⟨_, rfl, hd1, ?_⟩
         have hRb := (hR9.e0 hd0).ext hxb (fun e => own_ne hO9.e hR9 (by decide) e)
         have hEb := (hE9.e0 hd0).ext hxb (fun e => own_ne hO9.e hE9 (by decide) e)
         simp only [Act.put, zA, zB, zC, zD, zE, zF]
         refine zO 5 (by kernel_rfl) ?_
         refine wpOp_store (p := (w.heap.size + 1 + 1)) (cs := s3.arr) rfl (by rfl) rfl (by go_simp) (by go_simp) hRb rfl STStore rfl rfl (fun w2 hR2 hx2 => ?_)
         have hd2 := hd1.trans hx2 (fun q hq e => .inl e)
         refine ⟨hd2, ?_⟩
         simp only [Act.put, zA, zB, zC, zD, zE, zF]
         refine zO 6 (by kernel_rfl) ?_
         refine wpOp_store (p := (w.heap.size + 1 + 1 + 1)) (cs := resArr 0 (wrap64 (x6 + 1))) rfl (by rfl) rfl (by go_simp) (by go_simp) (hEb.ext hx2 (fun e => absurd (show (w.heap.size + 1 + 1 + 1) = (w.heap.size + 1 + 1) from e) (by omega))) rfl STResult rfl rfl (fun w3 hE3 hx3' => ?_)
         have hx3 := hd2.trans hx3' (fun q hq e => .inr (.inl e))
         have hR3 := hR2.ext hx3' (fun e => absurd (show (w.heap.size + 1 + 1) = (w.heap.size + 1 + 1 + 1) from e) (by omega))
         refine ⟨hx3, wpAnyH_done (by kernel_rfl) ?_ _⟩
         simp only [Act.put, zA, zB, zC, zD, zE, zF]
         go_wp2
         have hOt := (hO10.keep hx2 (Apart.one hRb (by decide))).keep hx3' (Apart.one (hEb.ext hx2 (fun e => absurd (show (w.heap.size + 1 + 1 + 1) = (w.heap.size + 1 + 1) from e) (by omega))) (by decide))
         exact bodyPost_ret (results_cell2 rfl STStore STResult rfl rfl hR3 rfl hE3 rfl) rfl ⟨s3, ⟨0, (wrap64 (x6 + 1)), []⟩, rfl, hOt, by rw [HDD.out, hd10], rfl, hx9w.trans hx3 (fun b hb2 e => by rcases e with e | e | e; omega; omega; exact (RowB.of_own hO9.e (by decide) e).back hx9w hb2)⟩
end Go.Proofs.YtlpfcmnnmdhaoaaGreat
