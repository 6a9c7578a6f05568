/- The document's disk: with. -/
import Derived.Test.YtlfpfhdagkkliaaDoorRd2
import Derived.BigQuiet
namespace Go.Proofs.YtlfpfhdagkkliaaDoor
set_option linter.unusedVariables false
set_option linter.unusedSimpArgs false
open Go.RowKit Go.Sort

theorem one_files {w : World} {Ok : Nat → Prop} {ys : List FileC} (h : ∀ y ∈ ys, BytesV w Ok y.2 y.1.2) : ∀ y ∈ ys.map FileC.cells, y.all Value.oneCell' = true := by
  intro y hy
  obtain ⟨z, hz, rfl⟩ := List.mem_map.1 hy
  obtain ⟨A, n, c, hv, _⟩ := h z hz
  unfold FileC.cells
  rw [hv]
  rfl
set_option maxRecDepth 20000 in
set_option maxHeartbeats 8000000 in
theorem rWith {Ok : Nat → Prop} (A : Option Addr) (n c : Nat) (ys : List FileC) (f : FileC) (w : World) (h : FilesAt w Ok A n c ys) (hn : n < 33554432) (hf : BytesV w Ok f.2 f.1.2) :
    Calls Tryd.prog 63 #[.slice A n c, .agg #[strV f.1.1, f.2]] w fun e w' => ∃ v, e = .returned v ∧ FilesV w' Ok v (Dk.with_ (ys.map (·.1)) f.1) ∧ Ext Nothing w w' := by
  obtain ⟨⟨nm, dt⟩, fv⟩ := f
  obtain ⟨Af, nf, cf, hv3, _⟩ := id hf
  have hv3 : fv = .slice Af nf cf := hv3
  subst hv3
  have HWM := Lib.hid (withY_map ys ((nm, dt), .slice Af nf cf))
  have HWY := Lib.hid (show withY ys ((nm, dt), .slice Af nf cf) = (withoutY ys nm).takeWhile (fun g => decide (g.1.1 < nm)) ++ ((nm, dt), Value.slice Af nf cf) :: (withoutY ys nm).dropWhile (fun g => decide (g.1.1 < nm)) from rfl)
  have HBF := Lib.hid (show BytesV w Ok (.slice Af nf cf) dt from hf)
  dsimp only
  have hn2 : n < 67108864 := by omega
  have hyl : (withoutY ys nm).length ≤ n := by
    rw [h.sl.len]
    exact List.length_filter_le _ _
  have hdz : ∀ y ∈ withoutY ys nm, BytesV w Ok y.2 y.1.2 := fun y hy => h.data y (List.mem_filter.1 hy).1
  go_enter Tryd.func63, Tryd.ntmps63
  go_upto_region 1 with (first | go_skip | go_guarded)
  have hx1 : Ext Nothing w (w.alloc (.cells #[strV nm, .slice Af nf cf] 65)) := Ext.auto
  have hB1 : Blk (w.alloc (.cells #[strV nm, .slice Af nf cf] 65)) w.heap.size 65 #[strV nm, .slice Af nf cf] := Blk.new _ _ _
  generalize w.alloc (.cells #[strV nm, .slice Af nf cf] 65) = w1 at hx1 hB1 ⊢
  generalize w.heap.size = V at hB1 ⊢
  have c0 : w1.cell? ⟨V, 0, none⟩ = some (strV nm) := hB1.cell 0
  go_upto_region 2 with (first | go_skip | go_guarded | (go_at_call 64; (with_reducible refine (rWithout A n c ys nm w1 (h.keep0 hx1) hn2).mono ?_); rintro e w2 ⟨v, rfl, ho, hx2⟩))
  have hx02 := hx1.tr hx2
  obtain ⟨A2, c2, rfl, hF2⟩ := FilesAt.own ho rfl (fun y hy => (hdz y hy).keep hx02 Off.none)
  have hB2 := hB1.e0 hx2
  have hb2 := hx02.size
  generalize withoutY ys nm = zs at hyl HWY hF2 hdz ⊢
  have hl2 := hF2.sl
  have hm : zs.length < 33554432 := by omega
  clear c0 ho hx1 hx2 hB1 hyl hdz h
  generalize hzl : zs.length = m at hF2 hl2 hm ⊢
  have HZL := Lib.hid hzl
  clear hzl
  go_upto_region 3 with (first | go_skip | go_guarded)
  go_loopw [5] (fun ki wr => ∃ t : Nat, t ≤ m ∧ ki = .int .i64 t ∧ (∀ j < t, ∀ y, zs[j]? = some y → decide (y.1.1 < nm) = true) ∧ Ext Nothing w2 wr) (fun ki _ => m - (intOf ki).toNat)
  case atStart => exact ⟨0, Nat.zero_le _, rfl, by simp, Ext.refl _ _⟩
  case round =>
    obtain ⟨t, ht, rfl, hno, hx⟩ := hrel
    have hBr := hB2.e0 hx
    have b0 : wr.cell? ⟨V, 0, none⟩ = some (strV nm) := hBr.cell 0
    by_cases hlt : t < m
    · obtain ⟨hjn, q, off, hAe, hce⟩ := hl2.get hx hlt
      have hyt : zs[t]? = some zs[t] := List.getElem?_eq_getElem hjn
      generalize zs[t] = y at hce hyt
      obtain ⟨⟨nm2, dt2⟩, v2⟩ := y
      subst hAe
      have c0 : wr.cell? ⟨q, off + t * 2, none⟩ = some (strV nm2) := by have h9 := hce 0 _ rfl; simpa using h9
      have hk0 : (0 : Int) ≤ (t : Int) := by omega
      have hk1 : (t : Int) < m := by omega
      have HN := Lib.hid hno
      have HT := Lib.hid hlt
      have HY := Lib.hid hyt
      clear hce hno hlt hyt hBr
      cases he : Op.bytesLess nm2 nm with
      | true =>
        have HE := Lib.hid (show decide (nm2 < nm) = true by rw [← bytesLess_eq]; exact he)
        have HN2 := Lib.hid (show ∀ j < t + 1, ∀ y, zs[j]? = some y → decide (y.1.1 < nm) = true from fun j hj y hy => by
          rcases Nat.lt_succ_iff_lt_or_eq.1 hj with h9 | rfl
          · exact HN.out j h9 y hy
          · rw [HY.out] at hy
            injection hy with hy
            rw [← hy]
            exact HE.out)
        go_upto_region 3 with (first | go_skip | go_guarded)
        go_quiet (fail)
        have hdq := (Ext.refl Nothing wr).drewN nq
        generalize wr.drewN nq = wq at hdq ⊢
        have hxq := hx.tr hdq
        clear b0 c0
        go_wp2
        go_roundw
        case rel => exact ⟨t + 1, HT.out, by go_num, HN2.out, hxq⟩
        case measure => have := HT.out; simp [intOf]; omega
      | false =>
        have HE := Lib.hid (show decide (nm2 < nm) = false by rw [← bytesLess_eq]; exact he)
        have HTW := Lib.hid (tw_take (p := fun g : FileC => decide (g.1.1 < nm)) (zs := zs) (t := t) HN.out (by have := HZL.out; omega) (.inr ⟨_, HY.out, HE.out⟩))
        go_upto_region 3 with (first | go_skip | go_guarded)
        go_quiet (fail)
        have hdq := (Ext.refl Nothing wr).drewN nq
        generalize wr.drewN nq = wq at hdq ⊢
        have hxq := hx.tr hdq
        clear b0 c0
        have hlW := hl2.ext0 hxq
        have hBr := hB2.e0 hxq
        obtain ⟨hh, hsh⟩ := slice_head (c := c2) hlW hF2.addr t ht hF2.cap Tryd.underlying58 Tryd.sizeOf65
        obtain ⟨A9, htl, hst, _⟩ := slice_tail (c := c2) hlW hF2.addr t ht hF2.cap Tryd.underlying58 Tryd.sizeOf65
        have hon := one_files hF2.data
        have hon1 : ∀ y ∈ (zs.map FileC.cells).take t, y.all Value.oneCell' = true := fun y hy => hon y (List.mem_of_mem_take hy)
        have hon2 : ∀ y ∈ (zs.map FileC.cells).drop t, y.all Value.oneCell' = true := fun y hy => hon y (List.mem_of_mem_drop hy)
        clear hon hlW
        go_upto_region 7 with (first | go_skip | go_guarded | (at_builtin; refine wpList_appA rfl _ _ 58 rfl wq.heap.size SRFile (.slice none 0 0) 0 [] rfl (World.ownsRow_nil _ _ _ _) (some ⟨q, off, none⟩) t c2 _ rfl hsh hon1 (by omega) (Nat.le_refl _) ?_; intro A5 c5 w5 hown5 hgr5; rw [Nat.zero_add] at hown5 ⊢))
        have hx5 : Ext Nothing wq w5 := (Ext.refl _ _).grown hgr5 (fun g hg => by simp [Value.ownBlock] at hg)
        have hB5 := hBr.e0 hx5
        have ha : Ext Nothing w5 (w5.alloc (.cells #[strV nm, .slice Af nf cf] 65)) := Ext.auto
        have hs5 := hx5.size
        go_upto_region 8 with (first | go_skip | go_guarded | ((with_reducible refine dW ?_); refine wpList_load_blk rfl 65 _ rfl STFile V rfl #[strV nm, .slice Af nf cf] hB5 rfl ?_) | ((with_reducible refine dW ?_); refine wpList_slice1 rfl 58 _ rfl SRFile #[strV nm, .slice Af nf cf] rfl rfl ?_) | (at_builtin; refine wpList_app1 rfl _ _ 58 rfl wq.heap.size SRFile (.slice A5 t c5) t _ rfl (own_ext hown5 ha (fun g hg e => e)) w5.heap.size 1 #[strV nm, .slice Af nf cf] rfl (Blk.new _ _ _) rfl rfl (by omega) (Nat.le_trans hs5 (by simp)) ?_; intro A6 c6 w6 hown6 hgr6))
        have hx6 : Ext Nothing wq w6 := (hx5.tr ha).grown hgr6 (fun g hg => .inl (hown5.lt g hg).1)
        have hst6 := hst.ext0 hx6
        have hs6 := hx6.size
        go_upto_region 9 with (first | go_skip | go_guarded | (at_builtin; refine wpList_appA rfl _ _ 58 rfl wq.heap.size SRFile (.slice A6 (t + 1) c6) (t + 1) _ rfl hown6 A9 (m - t) (c2 - t) _ rfl hst6 hon2 (by omega) hs6 ?_; intro A7 c7 w7 hown7 hgr7))
        have hx7 : Ext Nothing wq w7 := hx6.grown hgr7 (fun g hg => .inl (hown6.lt g hg).1)
        have hxw := (hx02.tr hxq).tr hx7
        have hx27 := hxq.tr hx7
        go_wp2_with (first | go_skip | go_guarded)
        go_ret
        refine ⟨_, rfl, ?_, hxw⟩
        rw [← HWM.out, HWY.out, HTW.out.1, HTW.out.2]
        refine FilesV.own (base := wq.heap.size) (n := t + 1 + (m - t)) ?_ (by simp; have := HZL.out; omega) (fun y hy => ?_)
        · refine Eq.mp ?_ hown7
          congr 1
          simp [List.flatMap_append, List.flatMap_cons, List.flatMap_def, List.map_take, List.map_drop, FileC.cells]
        · rcases List.mem_append.1 hy with hy | hy
          · exact (hF2.data y (List.mem_of_mem_take hy)).keep hx27 Off.none
          · rcases List.mem_cons.1 hy with rfl | hy
            · exact HBF.out.keep hxw Off.none
            · exact (hF2.data y (List.mem_of_mem_drop hy)).keep hx27 Off.none
    · have hnl : ¬ ((t : Int) < m) := by omega
      have HTW := Lib.hid (tw_take (p := fun g : FileC => decide (g.1.1 < nm)) (zs := zs) (t := t) hno (by have := HZL.out; omega) (.inl (by have := HZL.out; omega)))
      clear hno hBr
      go_upto_region 3 with (first | go_skip | go_guarded)
      go_quiet (fail)
      have hdq := (Ext.refl Nothing wr).drewN nq
      generalize wr.drewN nq = wq at hdq ⊢
      have hxq := hx.tr hdq
      clear b0
      have hlW := hl2.ext0 hxq
      have hBr := hB2.e0 hxq
      obtain ⟨hh, hsh⟩ := slice_head (c := c2) hlW hF2.addr t ht hF2.cap Tryd.underlying58 Tryd.sizeOf65
      obtain ⟨A9, htl, hst, _⟩ := slice_tail (c := c2) hlW hF2.addr t ht hF2.cap Tryd.underlying58 Tryd.sizeOf65
      have hon := one_files hF2.data
      have hon1 : ∀ y ∈ (zs.map FileC.cells).take t, y.all Value.oneCell' = true := fun y hy => hon y (List.mem_of_mem_take hy)
      have hon2 : ∀ y ∈ (zs.map FileC.cells).drop t, y.all Value.oneCell' = true := fun y hy => hon y (List.mem_of_mem_drop hy)
      clear hon hlW
      go_upto_region 7 with (first | go_skip | go_guarded | (at_builtin; refine wpList_appA rfl _ _ 58 rfl wq.heap.size SRFile (.slice none 0 0) 0 [] rfl (World.ownsRow_nil _ _ _ _) A2 t c2 _ rfl hsh hon1 (by omega) (Nat.le_refl _) ?_; intro A5 c5 w5 hown5 hgr5; rw [Nat.zero_add] at hown5 ⊢))
      have hx5 : Ext Nothing wq w5 := (Ext.refl _ _).grown hgr5 (fun g hg => by simp [Value.ownBlock] at hg)
      have hB5 := hBr.e0 hx5
      have ha : Ext Nothing w5 (w5.alloc (.cells #[strV nm, .slice Af nf cf] 65)) := Ext.auto
      have hs5 := hx5.size
      go_upto_region 8 with (first | go_skip | go_guarded | ((with_reducible refine dW ?_); refine wpList_load_blk rfl 65 _ rfl STFile V rfl #[strV nm, .slice Af nf cf] hB5 rfl ?_) | ((with_reducible refine dW ?_); refine wpList_slice1 rfl 58 _ rfl SRFile #[strV nm, .slice Af nf cf] rfl rfl ?_) | (at_builtin; refine wpList_app1 rfl _ _ 58 rfl wq.heap.size SRFile (.slice A5 t c5) t _ rfl (own_ext hown5 ha (fun g hg e => e)) w5.heap.size 1 #[strV nm, .slice Af nf cf] rfl (Blk.new _ _ _) rfl rfl (by omega) (Nat.le_trans hs5 (by simp)) ?_; intro A6 c6 w6 hown6 hgr6))
      have hx6 : Ext Nothing wq w6 := (hx5.tr ha).grown hgr6 (fun g hg => .inl (hown5.lt g hg).1)
      have hst6 := hst.ext0 hx6
      have hs6 := hx6.size
      go_upto_region 9 with (first | go_skip | go_guarded | (at_builtin; refine wpList_appA rfl _ _ 58 rfl wq.heap.size SRFile (.slice A6 (t + 1) c6) (t + 1) _ rfl hown6 A9 (m - t) (c2 - t) _ rfl hst6 hon2 (by omega) hs6 ?_; intro A7 c7 w7 hown7 hgr7))
      have hx7 : Ext Nothing wq w7 := hx6.grown hgr7 (fun g hg => .inl (hown6.lt g hg).1)
      have hxw := (hx02.tr hxq).tr hx7
      have hx27 := hxq.tr hx7
      go_wp2_with (first | go_skip | go_guarded)
      go_ret
      refine ⟨_, rfl, ?_, hxw⟩
      rw [← HWM.out, HWY.out, HTW.out.1, HTW.out.2]
      refine FilesV.own (base := wq.heap.size) (n := t + 1 + (m - t)) ?_ (by simp; have := HZL.out; omega) (fun y hy => ?_)
      · refine Eq.mp ?_ hown7
        congr 1
        simp [List.flatMap_append, List.flatMap_cons, List.flatMap_def, List.map_take, List.map_drop, FileC.cells]
      · rcases List.mem_append.1 hy with hy | hy
        · exact (hF2.data y (List.mem_of_mem_take hy)).keep hx27 Off.none
        · rcases List.mem_cons.1 hy with rfl | hy
          · exact HBF.out.keep hxw Off.none
          · exact (hF2.data y (List.mem_of_mem_drop hy)).keep hx27 Off.none
end Go.Proofs.YtlfpfhdagkkliaaDoor
