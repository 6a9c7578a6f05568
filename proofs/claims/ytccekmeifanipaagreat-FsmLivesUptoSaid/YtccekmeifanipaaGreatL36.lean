/- Parts of the proof: Lv11 -/
import Derived.Test.YtccekmeifanipaaGreatL34
import Derived.Test.YtccekmeifanipaaGreatL31
import Derived.Test.YtccekmeifanipaaGreatL04
import Derived.Test.YtccekmeifanipaaGreatL03
namespace Go.Proofs.YtccekmeifanipaaGreat
set_option linter.unusedVariables false
set_option linter.unusedSimpArgs false
set_option linter.unusedSectionVars false
open Go.RowKit
set_option maxRecDepth 20000 in
set_option maxHeartbeats 16000000 in
theorem QP (LA : Option Addr) (ln lc : Nat) (l : List Ba) (w : World) (hl : Sl w 27 LA ln (l.map Ba.cells)) (hr : ∀ c ∈ l,c.Read w) (hn : ln ≤ 1048576) :
  Calls Tryz.prog 9 #[.slice LA ln lc] w fun e w' => e = .returned (.bool true) ∧ Ext Nothing w w' := by
 go_enter Tryz.func9,Tryz.ntmps9
 have hln := Lib.hid hl.len
 go_upto_region 2 with (first | go_skip | go_guarded | (go_at_call 14; (with_reducible refine (QU w).mono ?_); rintro e w1 ⟨rfl,hx1⟩))
 have hxT : Ext Nothing w1 (w1.alloc (.cells #[.int .i64 0,.int .i64 1,.slice none 0 0,.slice none 0 0,.slice none 0 0,.slice none 0 0,.slice none 0 0,.slice none 0 0,.slice none 0 0] 30)) := Ext.Aq
 have hT0 : Blk (w1.alloc (.cells #[.int .i64 0,.int .i64 1,.slice none 0 0,.slice none 0 0,.slice none 0 0,.slice none 0 0,.slice none 0 0,.slice none 0 0,.slice none 0 0] 30)) w1.heap.size 30 Fg.arr := Blk.new _ _ _
 have hzT : w.heap.size ≤ w1.heap.size := hx1.size
 have hx0 := hx1.tr hxT
 generalize hTT : w1.heap.size = T at hT0 hzT ⊢
 generalize (w1.alloc (.cells #[.int .i64 0,.int .i64 1,.slice none 0 0,.slice none 0 0,.slice none 0 0,.slice none 0 0,.slice none 0 0,.slice none 0 0,.slice none 0 0] 30)) = w2 at hT0 hx0 ⊢
 clear hxT hx1 hTT
 have hO0 : Aw w.heap.size w2 Fg := Jk _ _
 go_wp2
 go_loopw [4] (fun ki wr => ∃ t : Nat,t ≤ ln ∧ ki = .int .i64 t ∧ ∃ sV : Aa,Aw w.heap.size wr sV ∧ Fsm.Ew t sV.data ∧ Blk wr T 30 sV.arr ∧ Ext Nothing w wr) (fun ki _ => ln - (intOf ki).toNat)
 case atStart => exact ⟨0,Nat.zero_le _,rfl,Fg,hO0,Fsm.Gu,hT0,hx0⟩
 case round =>
  obtain ⟨t,ht,rfl,sV,hO,hG,hT,hx⟩ := hrel
  clear hO0 hT0 hx0
  by_cases hlt : t < ln
  ·obtain ⟨hjn,b,off,hLe,hce⟩ := hl.get hx hlt
   have hrd := hr _ (List.getElem_mem hjn)
   generalize l[t] = c at hce hrd
   subst hLe
   have hk0 : (0 : Int) ≤ (t : Int) := by omega
   have hk1 : (t : Int) < ln := by omega
   have HW := Lib.hid (show wrap64 ((t : Int) + 1) = (t : Int) + 1 by unfold wrap64; omega)
   have HT := Lib.hid hlt
   have HG := Lib.hid hG
   have hbw : b < w.heap.size := by obtain ⟨q,hq⟩ := hl.blk (show 0 < ln by omega); exact hq
   have HCE := Lib.hid (show ∀ j u,c.arr.toList[j]? = some u → wr.cell? ⟨b,off + t * 27 + j,none⟩ = some u from hce)
   clear hce hG hlt
   go_upto_region 5 with (first | go_skip | go_guarded)
   (try simp only [Act.put,zA,zB,zC,zD,zE,zF])
   go_upto_region 5 with fail
   have hzw0 := hx.size
   go_cut [5,6] from 18 to 29 (fun e5 e6 wx => ∃ s2 r2 rv2 TT QQ,e5 = .pointer (some ⟨TT,0,none⟩) ∧ e6 = .pointer (some ⟨QQ,0,none⟩) ∧ Aw w.heap.size wx s2 ∧ Hid (Fsm.apply sV.data (wrap64 ((t : Int) + 1)) c.d = (s2.data,r2)) ∧ Blk wx TT 30 s2.arr ∧ Blk wx QQ 34 #[.int .i64 r2.code,.int .i64 r2.value,rv2] ∧ Da w.heap.size wx rv2 r2.allocs ∧ wr.heap.size ≤ TT ∧ wr.heap.size ≤ QQ ∧ Ext Nothing wr wx)
   case first =>
    have hd : Ext Nothing wr wr.drew := (Ext.refl _ _).drew
    refine zS (S := fun W' => Ext Nothing wr W') (by kernel_rfl) ?_
    generalize wr.drew = W at hd ⊢
    refine zV 0 (.agg sV.arr) rfl (by kernel_rfl) hd (fun _ _ _ h => h) (fun W' hS' => by exact Ay rfl STStore (by go_simp) (hT.e0 hS') rfl) ?_
    refine zV 1 (.int .i64 (t : Int)) rfl (by kernel_rfl) hd (fun _ _ _ h => h) (fun W' hS' => by go_simp) ?_
    refine zV 2 (.int .i64 (wrap64 ((t : Int) + 1))) rfl (by kernel_rfl) hd (fun _ _ _ h => h) (fun W' hS' => by go_simp; rw [IntKind.wrap_i64]; have := HT.out; unfold wrap64; omega) ?_
    refine zV 3 (.slice (some ⟨b,off,none⟩) ln lc) rfl (by kernel_rfl) hd (fun _ _ _ h => h) (fun W' hS' => by go_simp) ?_
    refine zV 4 (.int .i64 (t : Int)) rfl (by kernel_rfl) hd (fun _ _ _ h => h) (fun W' hS' => by go_simp) ?_
    refine zV 5 (.pointer (some ⟨b,off + t * 27,none⟩)) rfl (by kernel_rfl) hd (fun _ _ _ h => h) (fun W' hS' => by go_simp) ?_
    refine zV 6 (.agg c.arr) rfl (by kernel_rfl) hd (fun _ _ _ h => h) (fun W' hS' => by exact Ag (sz := 27) (b := b) (off := off + t * 27) rfl IJ (by go_simp) (fun j u hu => hS'.c0 (HCE.out j u hu)) rfl) ?_
    refine zV 7 (.agg (c.ent (wrap64 ((t : Int) + 1)) 1)) rfl (by kernel_rfl) hd (fun _ _ _ h => h) (fun W' hS' => by go_simp) ?_
    (try simp only [Act.put,zA,zB,zC,zD,zE,zF])
    refine wpAnyH_all (rs := [8,12,13]) (by kernel_rfl) (by simp) (List.forall_mem_cons.2 ⟨?_,(List.forall_mem_cons.2 ⟨?_,(List.forall_mem_cons.2 ⟨?_,(fun _ h => absurd h (by simp))⟩)⟩)⟩)
    (focus
     refine Aj (f := 15) (args := #[.agg sV.arr,.agg (c.ent (wrap64 ((t : Int) + 1)) 1)]) rfl (by rfl) (by go_simp) ((Ch (base := w.heap.size) (t := t) (w := W) (s := sV) (c := c) (ix := (wrap64 ((t : Int) + 1))) 1 (hO.AY hd) HG.out (hrd.K8 (hx.tr hd)) hrd.op (by have := HT.out; omega) (by have := HT.out; rw [HW.out]; omega) (by rw [HW.out]; omega)).mono ?_)
     rintro e W9 ⟨s2,r2,rv2,rfl,hO2,hF2,hres2,hx2⟩
     have hd0 := hd.size
     replace hO2 := hO2.base (show w.heap.size ≤ W.heap.size by have h8 := hd.size; omega)
     replace hd := hd.tr hx2
     replace hres2 := hres2.base (show w.heap.size ≤ W.heap.size by have h8 := hd0; have h9 := hx.size; omega)
     clear hx2
     obtain ⟨W,rfl⟩ : ∃ z : World,z = W9 := ⟨_,rfl⟩
     refine ⟨_,rfl,hd,?_⟩
     (try simp only [Act.put,zA,zB,zC,zD,zE,zF])
     refine zV 9 (.tuple #[.agg s2.arr,.agg #[.int .i64 r2.code,.int .i64 r2.value,rv2]]) rfl (by kernel_rfl) hd (fun _ _ _ h => h) (fun W' hS' => by go_simp) ?_
     refine zV 10 (.agg s2.arr) rfl (by kernel_rfl) hd (fun _ _ _ h => h) (fun W' hS' => by go_simp) ?_
     refine zV 11 (.agg #[.int .i64 r2.code,.int .i64 r2.value,rv2]) rfl (by kernel_rfl) hd (fun _ _ _ h => h) (fun W' hS' => by go_simp) ?_
     (try simp only [Act.put,zA,zB,zC,zD,zE,zF])
     refine wpAnyH_all (rs := [12,13]) (by kernel_rfl) (by simp) (List.forall_mem_cons.2 ⟨?_,(List.forall_mem_cons.2 ⟨?_,(fun _ h => absurd h (by simp))⟩)⟩)
     (focus
      refine wpOp_val (v := .pointer (some ⟨W.heap.size,0,none⟩)) (w' := (W.alloc (.cells #[.int .i64 0,.int .i64 0,.slice none 0 0,.slice none 0 0,.slice none 0 0,.slice none 0 0,.slice none 0 0,.slice none 0 0,.slice none 0 0] 30))) rfl (by rfl) (by go_simp) ⟨hd.tr Ext.Aq,?_⟩
      (try simp only [Act.put,zA,zB,zC,zD,zE,zF])
      have hA : Blk (W.alloc (.cells #[.int .i64 0,.int .i64 0,.slice none 0 0,.slice none 0 0,.slice none 0 0,.slice none 0 0,.slice none 0 0,.slice none 0 0,.slice none 0 0] 30)) W.heap.size 30 #[.int .i64 0,.int .i64 0,.slice none 0 0,.slice none 0 0,.slice none 0 0,.slice none 0 0,.slice none 0 0,.slice none 0 0,.slice none 0 0] := Blk.new _ _ _
      have hal : Ext Nothing W (W.alloc (.cells #[.int .i64 0,.int .i64 0,.slice none 0 0,.slice none 0 0,.slice none 0 0,.slice none 0 0,.slice none 0 0,.slice none 0 0,.slice none 0 0] 30)) := Ext.Aq
      have hzTT := hd.size
      replace hd := hd.tr hal
      replace hres2 := hres2.keep hal Apart.none
      replace hO2 := hO2.AY hal
      generalize W.heap.size = TT at hA hzTT ⊢
      generalize (W.alloc (.cells #[.int .i64 0,.int .i64 0,.slice none 0 0,.slice none 0 0,.slice none 0 0,.slice none 0 0,.slice none 0 0,.slice none 0 0,.slice none 0 0] 30)) = W at hres2 hA hd hO2 ⊢
      clear hal
      refine zO 13 (by kernel_rfl) ?_
      refine wpOp_val (v := .pointer (some ⟨W.heap.size,0,none⟩)) (w' := (W.alloc (.cells #[.int .i64 0,.int .i64 0,.slice none 0 0] 34))) rfl (by rfl) (by go_simp) ⟨hd.tr Ext.Aq,?_⟩
      (try simp only [Act.put,zA,zB,zC,zD,zE,zF])
      have hB : Blk (W.alloc (.cells #[.int .i64 0,.int .i64 0,.slice none 0 0] 34)) W.heap.size 34 #[.int .i64 0,.int .i64 0,.slice none 0 0] := Blk.new _ _ _
      have hal : Ext Nothing W (W.alloc (.cells #[.int .i64 0,.int .i64 0,.slice none 0 0] 34)) := Ext.Aq
      have hzQQ := hd.size
      replace hd := hd.tr hal
      replace hres2 := hres2.keep hal Apart.none
      replace hA := hA.e0 hal
      replace hO2 := hO2.AY hal
      generalize W.heap.size = QQ at hB hzQQ ⊢
      generalize (W.alloc (.cells #[.int .i64 0,.int .i64 0,.slice none 0 0] 34)) = W at hres2 hB hd hA hO2 ⊢
      clear hal
      )
     rotate_left
     (focus
      refine wpOp_val (v := .pointer (some ⟨W.heap.size,0,none⟩)) (w' := (W.alloc (.cells #[.int .i64 0,.int .i64 0,.slice none 0 0] 34))) rfl (by rfl) (by go_simp) ⟨hd.tr Ext.Aq,?_⟩
      (try simp only [Act.put,zA,zB,zC,zD,zE,zF])
      have hB : Blk (W.alloc (.cells #[.int .i64 0,.int .i64 0,.slice none 0 0] 34)) W.heap.size 34 #[.int .i64 0,.int .i64 0,.slice none 0 0] := Blk.new _ _ _
      have hal : Ext Nothing W (W.alloc (.cells #[.int .i64 0,.int .i64 0,.slice none 0 0] 34)) := Ext.Aq
      have hzQQ := hd.size
      replace hd := hd.tr hal
      replace hres2 := hres2.keep hal Apart.none
      replace hO2 := hO2.AY hal
      generalize W.heap.size = QQ at hB hzQQ ⊢
      generalize (W.alloc (.cells #[.int .i64 0,.int .i64 0,.slice none 0 0] 34)) = W at hres2 hB hd hO2 ⊢
      clear hal
      refine zO 12 (by kernel_rfl) ?_
      refine wpOp_val (v := .pointer (some ⟨W.heap.size,0,none⟩)) (w' := (W.alloc (.cells #[.int .i64 0,.int .i64 0,.slice none 0 0,.slice none 0 0,.slice none 0 0,.slice none 0 0,.slice none 0 0,.slice none 0 0,.slice none 0 0] 30))) rfl (by rfl) (by go_simp) ⟨hd.tr Ext.Aq,?_⟩
      (try simp only [Act.put,zA,zB,zC,zD,zE,zF])
      have hA : Blk (W.alloc (.cells #[.int .i64 0,.int .i64 0,.slice none 0 0,.slice none 0 0,.slice none 0 0,.slice none 0 0,.slice none 0 0,.slice none 0 0,.slice none 0 0] 30)) W.heap.size 30 #[.int .i64 0,.int .i64 0,.slice none 0 0,.slice none 0 0,.slice none 0 0,.slice none 0 0,.slice none 0 0,.slice none 0 0,.slice none 0 0] := Blk.new _ _ _
      have hal : Ext Nothing W (W.alloc (.cells #[.int .i64 0,.int .i64 0,.slice none 0 0,.slice none 0 0,.slice none 0 0,.slice none 0 0,.slice none 0 0,.slice none 0 0,.slice none 0 0] 30)) := Ext.Aq
      have hzTT := hd.size
      replace hd := hd.tr hal
      replace hres2 := hres2.keep hal Apart.none
      replace hB := hB.e0 hal
      replace hO2 := hO2.AY hal
      generalize W.heap.size = TT at hA hzTT ⊢
      generalize (W.alloc (.cells #[.int .i64 0,.int .i64 0,.slice none 0 0,.slice none 0 0,.slice none 0 0,.slice none 0 0,.slice none 0 0,.slice none 0 0,.slice none 0 0] 30)) = W at hres2 hA hd hB hO2 ⊢
      clear hal
      )
     rotate_left
     )
    rotate_left 2
    (focus
     refine wpOp_val (v := .pointer (some ⟨W.heap.size,0,none⟩)) (w' := (W.alloc (.cells #[.int .i64 0,.int .i64 0,.slice none 0 0,.slice none 0 0,.slice none 0 0,.slice none 0 0,.slice none 0 0,.slice none 0 0,.slice none 0 0] 30))) rfl (by rfl) (by go_simp) ⟨hd.tr Ext.Aq,?_⟩
     (try simp only [Act.put,zA,zB,zC,zD,zE,zF])
     have hA : Blk (W.alloc (.cells #[.int .i64 0,.int .i64 0,.slice none 0 0,.slice none 0 0,.slice none 0 0,.slice none 0 0,.slice none 0 0,.slice none 0 0,.slice none 0 0] 30)) W.heap.size 30 #[.int .i64 0,.int .i64 0,.slice none 0 0,.slice none 0 0,.slice none 0 0,.slice none 0 0,.slice none 0 0,.slice none 0 0,.slice none 0 0] := Blk.new _ _ _
     have hal : Ext Nothing W (W.alloc (.cells #[.int .i64 0,.int .i64 0,.slice none 0 0,.slice none 0 0,.slice none 0 0,.slice none 0 0,.slice none 0 0,.slice none 0 0,.slice none 0 0] 30)) := Ext.Aq
     have hzTT := hd.size
     replace hd := hd.tr hal
     generalize W.heap.size = TT at hA hzTT ⊢
     generalize (W.alloc (.cells #[.int .i64 0,.int .i64 0,.slice none 0 0,.slice none 0 0,.slice none 0 0,.slice none 0 0,.slice none 0 0,.slice none 0 0,.slice none 0 0] 30)) = W at hA hd ⊢
     clear hal
     refine wpAnyH_all (rs := [8,13]) (by kernel_rfl) (by simp) (List.forall_mem_cons.2 ⟨?_,(List.forall_mem_cons.2 ⟨?_,(fun _ h => absurd h (by simp))⟩)⟩)
     (focus
      refine Aj (f := 15) (args := #[.agg sV.arr,.agg (c.ent (wrap64 ((t : Int) + 1)) 1)]) rfl (by rfl) (by go_simp) ((Ch (base := w.heap.size) (t := t) (w := W) (s := sV) (c := c) (ix := (wrap64 ((t : Int) + 1))) 1 (hO.AY hd) HG.out (hrd.K8 (hx.tr hd)) hrd.op (by have := HT.out; omega) (by have := HT.out; rw [HW.out]; omega) (by rw [HW.out]; omega)).mono ?_)
      rintro e W9 ⟨s2,r2,rv2,rfl,hO2,hF2,hres2,hx2⟩
      have hd0 := hd.size
      replace hO2 := hO2.base (show w.heap.size ≤ W.heap.size by have h8 := hd.size; omega)
      replace hd := hd.tr hx2
      replace hA := hA.e0 hx2
      replace hres2 := hres2.base (show w.heap.size ≤ W.heap.size by have h8 := hd0; have h9 := hx.size; omega)
      clear hx2
      obtain ⟨W,rfl⟩ : ∃ z : World,z = W9 := ⟨_,rfl⟩
      refine ⟨_,rfl,hd,?_⟩
      (try simp only [Act.put,zA,zB,zC,zD,zE,zF])
      refine zV 9 (.tuple #[.agg s2.arr,.agg #[.int .i64 r2.code,.int .i64 r2.value,rv2]]) rfl (by kernel_rfl) hd (fun _ _ _ h => h) (fun W' hS' => by go_simp) ?_
      refine zV 10 (.agg s2.arr) rfl (by kernel_rfl) hd (fun _ _ _ h => h) (fun W' hS' => by go_simp) ?_
      refine zV 11 (.agg #[.int .i64 r2.code,.int .i64 r2.value,rv2]) rfl (by kernel_rfl) hd (fun _ _ _ h => h) (fun W' hS' => by go_simp) ?_
      (try simp only [Act.put,zA,zB,zC,zD,zE,zF])
      refine zO 13 (by kernel_rfl) ?_
      refine wpOp_val (v := .pointer (some ⟨W.heap.size,0,none⟩)) (w' := (W.alloc (.cells #[.int .i64 0,.int .i64 0,.slice none 0 0] 34))) rfl (by rfl) (by go_simp) ⟨hd.tr Ext.Aq,?_⟩
      (try simp only [Act.put,zA,zB,zC,zD,zE,zF])
      have hB : Blk (W.alloc (.cells #[.int .i64 0,.int .i64 0,.slice none 0 0] 34)) W.heap.size 34 #[.int .i64 0,.int .i64 0,.slice none 0 0] := Blk.new _ _ _
      have hal : Ext Nothing W (W.alloc (.cells #[.int .i64 0,.int .i64 0,.slice none 0 0] 34)) := Ext.Aq
      have hzQQ := hd.size
      replace hd := hd.tr hal
      replace hres2 := hres2.keep hal Apart.none
      replace hA := hA.e0 hal
      replace hO2 := hO2.AY hal
      generalize W.heap.size = QQ at hB hzQQ ⊢
      generalize (W.alloc (.cells #[.int .i64 0,.int .i64 0,.slice none 0 0] 34)) = W at hres2 hB hd hA hO2 ⊢
      clear hal
      )
     rotate_left
     (focus
      refine wpOp_val (v := .pointer (some ⟨W.heap.size,0,none⟩)) (w' := (W.alloc (.cells #[.int .i64 0,.int .i64 0,.slice none 0 0] 34))) rfl (by rfl) (by go_simp) ⟨hd.tr Ext.Aq,?_⟩
      (try simp only [Act.put,zA,zB,zC,zD,zE,zF])
      have hB : Blk (W.alloc (.cells #[.int .i64 0,.int .i64 0,.slice none 0 0] 34)) W.heap.size 34 #[.int .i64 0,.int .i64 0,.slice none 0 0] := Blk.new _ _ _
      have hal : Ext Nothing W (W.alloc (.cells #[.int .i64 0,.int .i64 0,.slice none 0 0] 34)) := Ext.Aq
      have hzQQ := hd.size
      replace hd := hd.tr hal
      replace hA := hA.e0 hal
      generalize W.heap.size = QQ at hB hzQQ ⊢
      generalize (W.alloc (.cells #[.int .i64 0,.int .i64 0,.slice none 0 0] 34)) = W at hB hd hA ⊢
      clear hal
      refine zO 8 (by kernel_rfl) ?_
      refine Aj (f := 15) (args := #[.agg sV.arr,.agg (c.ent (wrap64 ((t : Int) + 1)) 1)]) rfl (by rfl) (by go_simp) ((Ch (base := w.heap.size) (t := t) (w := W) (s := sV) (c := c) (ix := (wrap64 ((t : Int) + 1))) 1 (hO.AY hd) HG.out (hrd.K8 (hx.tr hd)) hrd.op (by have := HT.out; omega) (by have := HT.out; rw [HW.out]; omega) (by rw [HW.out]; omega)).mono ?_)
      rintro e W9 ⟨s2,r2,rv2,rfl,hO2,hF2,hres2,hx2⟩
      have hd0 := hd.size
      replace hO2 := hO2.base (show w.heap.size ≤ W.heap.size by have h8 := hd.size; omega)
      replace hd := hd.tr hx2
      replace hA := hA.e0 hx2
      replace hB := hB.e0 hx2
      replace hres2 := hres2.base (show w.heap.size ≤ W.heap.size by have h8 := hd0; have h9 := hx.size; omega)
      clear hx2
      obtain ⟨W,rfl⟩ : ∃ z : World,z = W9 := ⟨_,rfl⟩
      refine ⟨_,rfl,hd,?_⟩
      (try simp only [Act.put,zA,zB,zC,zD,zE,zF])
      refine zV 9 (.tuple #[.agg s2.arr,.agg #[.int .i64 r2.code,.int .i64 r2.value,rv2]]) rfl (by kernel_rfl) hd (fun _ _ _ h => h) (fun W' hS' => by go_simp) ?_
      refine zV 10 (.agg s2.arr) rfl (by kernel_rfl) hd (fun _ _ _ h => h) (fun W' hS' => by go_simp) ?_
      refine zV 11 (.agg #[.int .i64 r2.code,.int .i64 r2.value,rv2]) rfl (by kernel_rfl) hd (fun _ _ _ h => h) (fun W' hS' => by go_simp) ?_
      (try simp only [Act.put,zA,zB,zC,zD,zE,zF])
      )
     rotate_left
     )
    rotate_left 2
    (focus
     refine wpOp_val (v := .pointer (some ⟨W.heap.size,0,none⟩)) (w' := (W.alloc (.cells #[.int .i64 0,.int .i64 0,.slice none 0 0] 34))) rfl (by rfl) (by go_simp) ⟨hd.tr Ext.Aq,?_⟩
     (try simp only [Act.put,zA,zB,zC,zD,zE,zF])
     have hB : Blk (W.alloc (.cells #[.int .i64 0,.int .i64 0,.slice none 0 0] 34)) W.heap.size 34 #[.int .i64 0,.int .i64 0,.slice none 0 0] := Blk.new _ _ _
     have hal : Ext Nothing W (W.alloc (.cells #[.int .i64 0,.int .i64 0,.slice none 0 0] 34)) := Ext.Aq
     have hzQQ := hd.size
     replace hd := hd.tr hal
     generalize W.heap.size = QQ at hB hzQQ ⊢
     generalize (W.alloc (.cells #[.int .i64 0,.int .i64 0,.slice none 0 0] 34)) = W at hB hd ⊢
     clear hal
     refine wpAnyH_all (rs := [8,12]) (by kernel_rfl) (by simp) (List.forall_mem_cons.2 ⟨?_,(List.forall_mem_cons.2 ⟨?_,(fun _ h => absurd h (by simp))⟩)⟩)
     (focus
      refine Aj (f := 15) (args := #[.agg sV.arr,.agg (c.ent (wrap64 ((t : Int) + 1)) 1)]) rfl (by rfl) (by go_simp) ((Ch (base := w.heap.size) (t := t) (w := W) (s := sV) (c := c) (ix := (wrap64 ((t : Int) + 1))) 1 (hO.AY hd) HG.out (hrd.K8 (hx.tr hd)) hrd.op (by have := HT.out; omega) (by have := HT.out; rw [HW.out]; omega) (by rw [HW.out]; omega)).mono ?_)
      rintro e W9 ⟨s2,r2,rv2,rfl,hO2,hF2,hres2,hx2⟩
      have hd0 := hd.size
      replace hO2 := hO2.base (show w.heap.size ≤ W.heap.size by have h8 := hd.size; omega)
      replace hd := hd.tr hx2
      replace hB := hB.e0 hx2
      replace hres2 := hres2.base (show w.heap.size ≤ W.heap.size by have h8 := hd0; have h9 := hx.size; omega)
      clear hx2
      obtain ⟨W,rfl⟩ : ∃ z : World,z = W9 := ⟨_,rfl⟩
      refine ⟨_,rfl,hd,?_⟩
      (try simp only [Act.put,zA,zB,zC,zD,zE,zF])
      refine zV 9 (.tuple #[.agg s2.arr,.agg #[.int .i64 r2.code,.int .i64 r2.value,rv2]]) rfl (by kernel_rfl) hd (fun _ _ _ h => h) (fun W' hS' => by go_simp) ?_
      refine zV 10 (.agg s2.arr) rfl (by kernel_rfl) hd (fun _ _ _ h => h) (fun W' hS' => by go_simp) ?_
      refine zV 11 (.agg #[.int .i64 r2.code,.int .i64 r2.value,rv2]) rfl (by kernel_rfl) hd (fun _ _ _ h => h) (fun W' hS' => by go_simp) ?_
      (try simp only [Act.put,zA,zB,zC,zD,zE,zF])
      refine zO 12 (by kernel_rfl) ?_
      refine wpOp_val (v := .pointer (some ⟨W.heap.size,0,none⟩)) (w' := (W.alloc (.cells #[.int .i64 0,.int .i64 0,.slice none 0 0,.slice none 0 0,.slice none 0 0,.slice none 0 0,.slice none 0 0,.slice none 0 0,.slice none 0 0] 30))) rfl (by rfl) (by go_simp) ⟨hd.tr Ext.Aq,?_⟩
      (try simp only [Act.put,zA,zB,zC,zD,zE,zF])
      have hA : Blk (W.alloc (.cells #[.int .i64 0,.int .i64 0,.slice none 0 0,.slice none 0 0,.slice none 0 0,.slice none 0 0,.slice none 0 0,.slice none 0 0,.slice none 0 0] 30)) W.heap.size 30 #[.int .i64 0,.int .i64 0,.slice none 0 0,.slice none 0 0,.slice none 0 0,.slice none 0 0,.slice none 0 0,.slice none 0 0,.slice none 0 0] := Blk.new _ _ _
      have hal : Ext Nothing W (W.alloc (.cells #[.int .i64 0,.int .i64 0,.slice none 0 0,.slice none 0 0,.slice none 0 0,.slice none 0 0,.slice none 0 0,.slice none 0 0,.slice none 0 0] 30)) := Ext.Aq
      have hzTT := hd.size
      replace hd := hd.tr hal
      replace hres2 := hres2.keep hal Apart.none
      replace hB := hB.e0 hal
      replace hO2 := hO2.AY hal
      generalize W.heap.size = TT at hA hzTT ⊢
      generalize (W.alloc (.cells #[.int .i64 0,.int .i64 0,.slice none 0 0,.slice none 0 0,.slice none 0 0,.slice none 0 0,.slice none 0 0,.slice none 0 0,.slice none 0 0] 30)) = W at hres2 hA hd hB hO2 ⊢
      clear hal
      )
     rotate_left
     (focus
      refine wpOp_val (v := .pointer (some ⟨W.heap.size,0,none⟩)) (w' := (W.alloc (.cells #[.int .i64 0,.int .i64 0,.slice none 0 0,.slice none 0 0,.slice none 0 0,.slice none 0 0,.slice none 0 0,.slice none 0 0,.slice none 0 0] 30))) rfl (by rfl) (by go_simp) ⟨hd.tr Ext.Aq,?_⟩
      (try simp only [Act.put,zA,zB,zC,zD,zE,zF])
      have hA : Blk (W.alloc (.cells #[.int .i64 0,.int .i64 0,.slice none 0 0,.slice none 0 0,.slice none 0 0,.slice none 0 0,.slice none 0 0,.slice none 0 0,.slice none 0 0] 30)) W.heap.size 30 #[.int .i64 0,.int .i64 0,.slice none 0 0,.slice none 0 0,.slice none 0 0,.slice none 0 0,.slice none 0 0,.slice none 0 0,.slice none 0 0] := Blk.new _ _ _
      have hal : Ext Nothing W (W.alloc (.cells #[.int .i64 0,.int .i64 0,.slice none 0 0,.slice none 0 0,.slice none 0 0,.slice none 0 0,.slice none 0 0,.slice none 0 0,.slice none 0 0] 30)) := Ext.Aq
      have hzTT := hd.size
      replace hd := hd.tr hal
      replace hB := hB.e0 hal
      generalize W.heap.size = TT at hA hzTT ⊢
      generalize (W.alloc (.cells #[.int .i64 0,.int .i64 0,.slice none 0 0,.slice none 0 0,.slice none 0 0,.slice none 0 0,.slice none 0 0,.slice none 0 0,.slice none 0 0] 30)) = W at hA hd hB ⊢
      clear hal
      refine zO 8 (by kernel_rfl) ?_
      refine Aj (f := 15) (args := #[.agg sV.arr,.agg (c.ent (wrap64 ((t : Int) + 1)) 1)]) rfl (by rfl) (by go_simp) ((Ch (base := w.heap.size) (t := t) (w := W) (s := sV) (c := c) (ix := (wrap64 ((t : Int) + 1))) 1 (hO.AY hd) HG.out (hrd.K8 (hx.tr hd)) hrd.op (by have := HT.out; omega) (by have := HT.out; rw [HW.out]; omega) (by rw [HW.out]; omega)).mono ?_)
      rintro e W9 ⟨s2,r2,rv2,rfl,hO2,hF2,hres2,hx2⟩
      have hd0 := hd.size
      replace hO2 := hO2.base (show w.heap.size ≤ W.heap.size by have h8 := hd.size; omega)
      replace hd := hd.tr hx2
      replace hA := hA.e0 hx2
      replace hB := hB.e0 hx2
      replace hres2 := hres2.base (show w.heap.size ≤ W.heap.size by have h8 := hd0; have h9 := hx.size; omega)
      clear hx2
      obtain ⟨W,rfl⟩ : ∃ z : World,z = W9 := ⟨_,rfl⟩
      refine ⟨_,rfl,hd,?_⟩
      (try simp only [Act.put,zA,zB,zC,zD,zE,zF])
      refine zV 9 (.tuple #[.agg s2.arr,.agg #[.int .i64 r2.code,.int .i64 r2.value,rv2]]) rfl (by kernel_rfl) hd (fun _ _ _ h => h) (fun W' hS' => by go_simp) ?_
      refine zV 10 (.agg s2.arr) rfl (by kernel_rfl) hd (fun _ _ _ h => h) (fun W' hS' => by go_simp) ?_
      refine zV 11 (.agg #[.int .i64 r2.code,.int .i64 r2.value,rv2]) rfl (by kernel_rfl) hd (fun _ _ _ h => h) (fun W' hS' => by go_simp) ?_
      (try simp only [Act.put,zA,zB,zC,zD,zE,zF])
      )
     rotate_left
     )
    rotate_left 2
    all_goals (
     refine zO 14 (by kernel_rfl) ?_
     refine Bl (p := TT) (cs := s2.arr) rfl (by rfl) rfl (by go_simp) (by go_simp) hA rfl STStore rfl rfl (fun w3 hA3 hx3 => ?_)
     have hd3 := hd.trans hx3 (fun q hq e => absurd (show q = TT from e) (by omega))
     have hB3 := hB.ext hx3 (fun e => Blk.ne hB hA (by decide) e)
     refine ⟨hd3,?_⟩
     (try simp only [Act.put,zA,zB,zC,zD,zE,zF])
     refine zO 15 (by kernel_rfl) ?_
     obtain ⟨RA9,rc9,rfl,hro⟩ := hres2
     refine Bl (p := QQ) (cs := #[.int .i64 r2.code,.int .i64 r2.value,.slice RA9 r2.allocs.length rc9]) rfl (by rfl) rfl (by go_simp) (by go_simp) hB3 rfl STResult rfl rfl (fun w4 hB4 hx4 => ?_)
     have hd4 := hd3.trans hx4 (fun q hq e => absurd (show q = QQ from e) (by omega))
     have hA4 := hA3.ext hx4 (fun e => Blk.ne hA3 hB3 (by decide) e)
     have hres2 : Da w.heap.size W (.slice RA9 r2.allocs.length rc9) r2.allocs := ⟨RA9,rc9,rfl,hro⟩
     refine ⟨hd4,wpAnyH_done (by kernel_rfl) ?_ _⟩
     (try simp only [Act.put,zA,zB,zC,zD,zE,zF])
     go_wp2
     go_meet
     exact ⟨s2,r2,_,TT,QQ,rfl,rfl,(hO2.keep hx3 (Apart.one hA (by decide))).keep hx4 (Apart.one hB3 (by decide)),Lib.hid hF2,hA4,hB4,(hres2.keep hx3 (Apart.one hA (by decide))).keep hx4 (Apart.one hB3 (by decide)),hzTT,hzQQ,hd4⟩
     )
   case rest =>
    obtain ⟨s5,r5,rv5,TT,QQ,rfl,rfl,hO5,HF5,hT5,hE5,hres5,hz5,hzq5,hx5⟩ := hcut
    obtain ⟨w5,rfl⟩ : ∃ z : World,z = wc := ⟨_,rfl⟩
    have HG5 := Lib.hid (show Fsm.Ew (t + 1) s5.data by have h9 := Fsm.Df HG.out (by have := HT.out; omega) hrd.Fe; rw [← HW.out,HF5.out] at h9; exact h9)
    have HWN := Lib.hid (Fsm.NY HG.out.num hrd.Fe (by have := HT.out; omega) HF5.out)
    obtain ⟨ql1,ql2,ql3,ql4,ql5,ql6,ql7⟩ := Dh HG.out (show t ≤ 1048576 by have := HT.out; omega)
    have hmJ : sV.nJ ≤ 1048576 := by have := hO.jl; have := HT.out; omega
    have hmS : sV.nS ≤ 1048576 := by have := hO.tl; have := HT.out; omega
    have hmN : sV.nN ≤ 1048576 := by have := hO.nl; have := HT.out; omega
    have hmA : sV.nA ≤ 64 := by have := hO.al; have := HT.out; omega
    have hmE : sV.nE ≤ 1048576 := by have := hO.el; have := HT.out; omega
    have hmD : sV.nD ≤ 1048576 := by have := hO.dl; have := HT.out; omega
    clear ql1 ql2 ql3 ql4 ql5 ql6 ql7
    obtain ⟨ql1,ql2,ql3,ql4,ql5,ql6,ql7⟩ := Dh HG5.out (show t + 1 ≤ 1048576 by have := HT.out; omega)
    have hkJ : s5.nJ ≤ 1048576 := by have := hO5.jl; have := HT.out; omega
    have hkS : s5.nS ≤ 1048576 := by have := hO5.tl; have := HT.out; omega
    have hkN : s5.nN ≤ 1048576 := by have := hO5.nl; have := HT.out; omega
    have hkA : s5.nA ≤ 64 := by have := hO5.al; have := HT.out; omega
    have hkE : s5.nE ≤ 1048576 := by have := hO5.el; have := HT.out; omega
    have hkD : s5.nD ≤ 1048576 := by have := hO5.dl; have := HT.out; omega
    clear ql1 ql2 ql3 ql4 ql5 ql6 ql7
    have hTs := hT.e0 hx5
    have hOs := hO.AY hx5
    have hxw5 := hx.tr hx5
    clear hT hO hx hE5 hres5
    go_wp2
    go_loopw [7] (fun ki wr => ∃ k : Nat,k ≤ sV.nA ∧ ki = .int .i64 k ∧ Ext Nothing w5 wr) (fun ki _ => sV.nA - (intOf ki).toNat)
    case atStart => exact ⟨0,Nat.zero_le _,rfl,Ext.refl _ _⟩
    case round =>
     obtain ⟨k,hk,rfl,hx⟩ := hrel
     have m5 : wr.cell? ⟨T,5,none⟩ = some (.slice sV.AA sV.nA sV.cA) := (hTs.e0 hx).cell 5
     by_cases hlt : k < sV.nA
     ·obtain ⟨hjn,g,offa,hAe,hace⟩ := hOs.slA.get hx hlt
      have hym : sV.allocs[k] ∈ sV.data.allocs := List.getElem_mem hjn
      generalize sV.allocs[k] = y at hace hym
      obtain ⟨y0,y1,y2,y3,y4,y5,y6,⟨y7,y8⟩,y9,y10⟩ := y
      rw [hAe] at m5
      have hce : ∀ j u,(#[.int .i64 y0,.int .i64 y1,.int .i64 y2,.int .i64 y3,.int .i64 y4,.int .i64 y5,.int .i64 y6,.int .i64 y7,.int .i64 y8,.bool y9,.int .i64 y10] : Array Value).toList[j]? = some u → wr.cell? ⟨g,offa + k * 11 + j,none⟩ = some u := hace
      have HYM := Lib.hid hym
      have HTK := Lib.hid hlt
      have hk0' : (0 : Int) ≤ (k : Int) := by omega
      have hk1' : (k : Int) < sV.nA := by omega
      clear hAe hace hym hlt
      have hxA : Ext Nothing wr (wr.alloc (.cells #[.int .i64 y0,.int .i64 y1,.int .i64 y2,.int .i64 y3,.int .i64 y4,.int .i64 y5,.int .i64 y6,.int .i64 y7,.int .i64 y8,.bool y9,.int .i64 y10] 55)) := Ext.Aq
      have hY : Blk (wr.alloc (.cells #[.int .i64 y0,.int .i64 y1,.int .i64 y2,.int .i64 y3,.int .i64 y4,.int .i64 y5,.int .i64 y6,.int .i64 y7,.int .i64 y8,.bool y9,.int .i64 y10] 55)) wr.heap.size 55 #[.int .i64 y0,.int .i64 y1,.int .i64 y2,.int .i64 y3,.int .i64 y4,.int .i64 y5,.int .i64 y6,.int .i64 y7,.int .i64 y8,.bool y9,.int .i64 y10] := Blk.new _ _ _
      go_upto_region 10 with (first | go_skip | go_guarded | ((with_reducible refine isW ?_); refine Ad rfl 55 _ rfl AB g (offa + k * 11) rfl #[.int .i64 y0,.int .i64 y1,.int .i64 y2,.int .i64 y3,.int .i64 y4,.int .i64 y5,.int .i64 y6,.int .i64 y7,.int .i64 y8,.bool y9,.int .i64 y10] hce rfl ?_))
      have hx5A := hx.tr hxA
      clear hce hxA m5
      generalize wr.heap.size = Y at hY ⊢
      generalize (wr.alloc (.cells #[.int .i64 y0,.int .i64 y1,.int .i64 y2,.int .i64 y3,.int .i64 y4,.int .i64 y5,.int .i64 y6,.int .i64 y7,.int .i64 y8,.bool y9,.int .i64 y10] 55)) = wa at hY hx5A ⊢
      have p0 : wa.cell? ⟨Y,0,none⟩ = some (.int .i64 y0) := hY.cell 0
      have hT5a := hT5.e0 hx5A
      have hsl5 := (hO5.AY hx5A).slA
      have hkA9 : s5.nA ≤ 67108864 := by omega
      rcases AC (fun x : Ac => x.id == y0) s5.allocs with ⟨hi,hf,hno⟩ | ⟨i,x,hi,hxi,hp,hf,_⟩
      ·have hov := Fsm.Oq HWN.out.1 HYM.out (fun b hb e => by have h9 := hno b hb; simp at h9; exact h9 e)
       have ho3 : ¬ (y10 < 3) := by simp [Bb] at hov; omega
       have HI := Lib.hid hi
       clear hi hf hno hov
       go_upto_region 12 with (first | go_skip | go_guarded | ((with_reducible refine isW ?_); refine Ae rfl 30 _ rfl STStore TT rfl s5.arr (show Blk _ _ 30 _ from hT5a) rfl ?_) | (go_at_call 23; (with_reducible refine (EK s5.AA s5.nA s5.cA s5.allocs y0 wa hsl5 hkA9 _ _ _ _ _ _ _ _).mono ?_); rintro e w6 ⟨rfl,hx6⟩; (rw [HI.out])))
       have p10 : w6.cell? ⟨Y,10,none⟩ = some (.int .i64 y10) := (hY.e0 hx6).cell 10
       go_wp2_with (first | go_skip | go_guarded)
       go_roundw
       case rel => exact ⟨k + 1,HTK.out,by go_num,hx5A.tr hx6⟩
       case measure => have := HTK.out; simp [intOf]; omega
      have hon := Fsm.NC HG.out.num HWN.out.2 HYM.out (List.mem_of_getElem? hxi : x ∈ s5.data.allocs) (by simpa using hp)
      have hilt : i < s5.nA := by have := hO5.al; have := (List.getElem?_eq_some_iff.1 hxi).1; omega
      have hc5 := hon.core
      obtain ⟨x0,x1,x2,x3,x4,x5,x6,⟨x7,x8⟩,x9,x10⟩ := x
      simp only [Fsm.core,Ac.mk.injEq,BX.mk.injEq] at hc5
      obtain ⟨e0,e1,e2,e3,e4,e5,e6,⟨e7,e8⟩,_,_⟩ := hc5
      subst x0 x1 x2 x3 x4 x5 x6 x7 x8
      have hr1 : ¬ (x10 < y10) := by have := hon.rise; dsimp only at this; omega
      have hps := hon.past
      have hst := hon.stop
      have HI := Lib.hid hi
      have hi0 : (0 : Int) ≤ (i : Int) := by omega
      have hi2 : (i : Int) < s5.nA := by omega
      have hig : ¬ ((i : Int) < 0) := by omega
      clear hi hf hp hon
      go_upto_region 14 with (first | go_skip | go_guarded | ((with_reducible refine isW ?_); refine Ae rfl 30 _ rfl STStore TT rfl s5.arr (show Blk _ _ 30 _ from hT5a) rfl ?_) | (go_at_call 23; (with_reducible refine (EK s5.AA s5.nA s5.cA s5.allocs y0 wa hsl5 hkA9 _ _ _ _ _ _ _ _).mono ?_); rintro e w6 ⟨rfl,hx6⟩; (rw [HI.out])))
      have hx56 := hx5A.tr hx6
      have hY6 := hY.e0 hx6
      have hT56 := hT5.e0 hx56
      have hO56 := hO5.AY hx56
      obtain ⟨gx,_,hAx,_,_,_,hxce,_⟩ := hO56.KD hxi
      have m5 : w6.cell? ⟨TT,5,none⟩ = some (.slice (some ⟨gx,0,none⟩) s5.nA s5.cA) := by rw [← hAx]; exact hT56.cell 5
      clear hAx hxi
      have hxB : Ext Nothing w6 (w6.alloc (.cells #[.int .i64 y0,.int .i64 y1,.int .i64 y2,.int .i64 y3,.int .i64 y4,.int .i64 y5,.int .i64 y6,.int .i64 y7,.int .i64 y8,.bool x9,.int .i64 x10] 55)) := Ext.Aq
      have hX : Blk (w6.alloc (.cells #[.int .i64 y0,.int .i64 y1,.int .i64 y2,.int .i64 y3,.int .i64 y4,.int .i64 y5,.int .i64 y6,.int .i64 y7,.int .i64 y8,.bool x9,.int .i64 x10] 55)) w6.heap.size 55 #[.int .i64 y0,.int .i64 y1,.int .i64 y2,.int .i64 y3,.int .i64 y4,.int .i64 y5,.int .i64 y6,.int .i64 y7,.int .i64 y8,.bool x9,.int .i64 x10] := Blk.new _ _ _
      have hxce2 : ∀ j u,(#[.int .i64 y0,.int .i64 y1,.int .i64 y2,.int .i64 y3,.int .i64 y4,.int .i64 y5,.int .i64 y6,.int .i64 y7,.int .i64 y8,.bool x9,.int .i64 x10] : Array Value).toList[j]? = some u → w6.cell? ⟨gx,i * 11 + j,none⟩ = some u := hxce
      go_upto_region 15 with (first | go_skip | go_guarded | ((with_reducible refine isW ?_); refine Ad rfl 55 _ rfl AB gx (i * 11) rfl #[.int .i64 y0,.int .i64 y1,.int .i64 y2,.int .i64 y3,.int .i64 y4,.int .i64 y5,.int .i64 y6,.int .i64 y7,.int .i64 y8,.bool x9,.int .i64 x10] hxce2 rfl ?_))
      have hYX := hY6.e0 hxB
      have hx5X := hx56.tr hxB
      have hYlt := hY6.lt
      clear hxce hxce2 m5 hxB hY6 hT56 hO56 hY hT5a hsl5
      have hX6 := hx56.size
      generalize w6.heap.size = X at hX hYlt hX6 ⊢
      generalize (w6.alloc (.cells #[.int .i64 y0,.int .i64 y1,.int .i64 y2,.int .i64 y3,.int .i64 y4,.int .i64 y5,.int .i64 y6,.int .i64 y7,.int .i64 y8,.bool x9,.int .i64 x10] 55)) = wx at hX hYX hx5X ⊢
      have c10 : wx.cell? ⟨X,10,none⟩ = some (.int .i64 x10) := hX.cell 10
      have c9 : wx.cell? ⟨X,9,none⟩ = some (.bool x9) := hX.cell 9
      have d10 : wx.cell? ⟨Y,10,none⟩ = some (.int .i64 y10) := hYX.cell 10
      have d9 : wx.cell? ⟨Y,9,none⟩ = some (.bool y9) := hYX.cell 9
      have g1 : decide (x10 < y10) = false := by simp; omega
      cases g2 : decide (3 ≤ y10) with
      | true =>
       obtain rfl : x10 = y10 := hps (show Bb _ = true from g2)
       have g3 : (x10 != x10) = false := by simp
       cases y9 with
       | true =>
        obtain rfl : x9 = true := hst rfl
        have hs1 : Ext (fun q => q = X) wx (wx.setCell ⟨X,10,none⟩ (.int .i64 x10)) := Ext.set1 _ _ _ _
        have hX1 : Blk (wx.setCell ⟨X,10,none⟩ (.int .i64 x10)) X 55 #[.int .i64 y0,.int .i64 y1,.int .i64 y2,.int .i64 y3,.int .i64 y4,.int .i64 y5,.int .i64 y6,.int .i64 y7,.int .i64 y8,.bool true,.int .i64 x10] := hX.Bf 10 _
        have hs2 : Ext (fun q => q = X) (wx.setCell ⟨X,10,none⟩ (.int .i64 x10)) ((wx.setCell ⟨X,10,none⟩ (.int .i64 x10)).setCell ⟨X,9,none⟩ (.bool true)) := Ext.set1 _ _ _ _
        have hX2 : Blk ((wx.setCell ⟨X,10,none⟩ (.int .i64 x10)).setCell ⟨X,9,none⟩ (.bool true)) X 55 #[.int .i64 y0,.int .i64 y1,.int .i64 y2,.int .i64 y3,.int .i64 y4,.int .i64 y5,.int .i64 y6,.int .i64 y7,.int .i64 y8,.bool true,.int .i64 x10] := hX1.Bf 9 _
        have c10f : wx.frozen? ⟨X,10,none⟩ = false := hX.frozen 10
        have b9 : (wx.setCell ⟨X,10,none⟩ (.int .i64 x10)).cell? ⟨X,9,none⟩ = some (.bool true) := hX1.cell 9
        have b9f : (wx.setCell ⟨X,10,none⟩ (.int .i64 x10)).frozen? ⟨X,9,none⟩ = false := hX1.frozen 9
        have y9c : (wx.setCell ⟨X,10,none⟩ (.int .i64 x10)).cell? ⟨Y,9,none⟩ = some (.bool true) := hs1.cell d9 (fun e => absurd (show Y = X from e) (by omega))
        have hY2 := (hYX.ext hs1 (fun e => absurd (show Y = X from e) (by omega))).ext hs2 (fun e => absurd (show Y = X from e) (by omega))
        have hx52 : Ext Nothing w5 ((wx.setCell ⟨X,10,none⟩ (.int .i64 x10)).setCell ⟨X,9,none⟩ (.bool true)) := (hx5X.trans hs1 (fun q hq e => absurd (show q = X from e) (by have h9 : q < w5.heap.size := hq; omega))).trans hs2 (fun q hq e => absurd (show q = X from e) (by have h9 : q < w5.heap.size := hq; omega))
        go_wp2_with (first | go_skip | go_guarded | ((with_reducible refine isW ?_); refine Ae rfl 55 _ rfl AB Y rfl #[.int .i64 y0,.int .i64 y1,.int .i64 y2,.int .i64 y3,.int .i64 y4,.int .i64 y5,.int .i64 y6,.int .i64 y7,.int .i64 y8,.bool true,.int .i64 x10] (show Blk _ _ 55 _ from hY2) rfl ?_) | ((with_reducible refine isW ?_); refine Ae rfl 55 _ rfl AB X rfl #[.int .i64 y0,.int .i64 y1,.int .i64 y2,.int .i64 y3,.int .i64 y4,.int .i64 y5,.int .i64 y6,.int .i64 y7,.int .i64 y8,.bool true,.int .i64 x10] (show Blk _ _ 55 _ from hX2) rfl ?_))
        go_roundw
        case rel => exact ⟨k + 1,HTK.out,by go_num,hx52⟩
        case measure => have := HTK.out; simp [intOf]; omega
       | false =>
        have hs1 : Ext (fun q => q = X) wx (wx.setCell ⟨X,10,none⟩ (.int .i64 x10)) := Ext.set1 _ _ _ _
        have hX1 : Blk (wx.setCell ⟨X,10,none⟩ (.int .i64 x10)) X 55 #[.int .i64 y0,.int .i64 y1,.int .i64 y2,.int .i64 y3,.int .i64 y4,.int .i64 y5,.int .i64 y6,.int .i64 y7,.int .i64 y8,.bool x9,.int .i64 x10] := hX.Bf 10 _
        have hs2 : Ext (fun q => q = X) (wx.setCell ⟨X,10,none⟩ (.int .i64 x10)) ((wx.setCell ⟨X,10,none⟩ (.int .i64 x10)).setCell ⟨X,9,none⟩ (.bool false)) := Ext.set1 _ _ _ _
        have hX2 : Blk ((wx.setCell ⟨X,10,none⟩ (.int .i64 x10)).setCell ⟨X,9,none⟩ (.bool false)) X 55 #[.int .i64 y0,.int .i64 y1,.int .i64 y2,.int .i64 y3,.int .i64 y4,.int .i64 y5,.int .i64 y6,.int .i64 y7,.int .i64 y8,.bool false,.int .i64 x10] := hX1.Bf 9 _
        have c10f : wx.frozen? ⟨X,10,none⟩ = false := hX.frozen 10
        have b9 : (wx.setCell ⟨X,10,none⟩ (.int .i64 x10)).cell? ⟨X,9,none⟩ = some (.bool x9) := hX1.cell 9
        have b9f : (wx.setCell ⟨X,10,none⟩ (.int .i64 x10)).frozen? ⟨X,9,none⟩ = false := hX1.frozen 9
        have y9c : (wx.setCell ⟨X,10,none⟩ (.int .i64 x10)).cell? ⟨Y,9,none⟩ = some (.bool false) := hs1.cell d9 (fun e => absurd (show Y = X from e) (by omega))
        have hY2 := (hYX.ext hs1 (fun e => absurd (show Y = X from e) (by omega))).ext hs2 (fun e => absurd (show Y = X from e) (by omega))
        have hx52 : Ext Nothing w5 ((wx.setCell ⟨X,10,none⟩ (.int .i64 x10)).setCell ⟨X,9,none⟩ (.bool false)) := (hx5X.trans hs1 (fun q hq e => absurd (show q = X from e) (by have h9 : q < w5.heap.size := hq; omega))).trans hs2 (fun q hq e => absurd (show q = X from e) (by have h9 : q < w5.heap.size := hq; omega))
        go_wp2_with (first | go_skip | go_guarded | ((with_reducible refine isW ?_); refine Ae rfl 55 _ rfl AB Y rfl #[.int .i64 y0,.int .i64 y1,.int .i64 y2,.int .i64 y3,.int .i64 y4,.int .i64 y5,.int .i64 y6,.int .i64 y7,.int .i64 y8,.bool false,.int .i64 x10] (show Blk _ _ 55 _ from hY2) rfl ?_) | ((with_reducible refine isW ?_); refine Ae rfl 55 _ rfl AB X rfl #[.int .i64 y0,.int .i64 y1,.int .i64 y2,.int .i64 y3,.int .i64 y4,.int .i64 y5,.int .i64 y6,.int .i64 y7,.int .i64 y8,.bool false,.int .i64 x10] (show Blk _ _ 55 _ from hX2) rfl ?_))
        go_roundw
        case rel => exact ⟨k + 1,HTK.out,by go_num,hx52⟩
        case measure => have := HTK.out; simp [intOf]; omega
      | false =>
       cases y9 with
       | true =>
        obtain rfl : x9 = true := hst rfl
        have hs1 : Ext (fun q => q = X) wx (wx.setCell ⟨X,10,none⟩ (.int .i64 y10)) := Ext.set1 _ _ _ _
        have hX1 : Blk (wx.setCell ⟨X,10,none⟩ (.int .i64 y10)) X 55 #[.int .i64 y0,.int .i64 y1,.int .i64 y2,.int .i64 y3,.int .i64 y4,.int .i64 y5,.int .i64 y6,.int .i64 y7,.int .i64 y8,.bool true,.int .i64 y10] := hX.Bf 10 _
        have hs2 : Ext (fun q => q = X) (wx.setCell ⟨X,10,none⟩ (.int .i64 y10)) ((wx.setCell ⟨X,10,none⟩ (.int .i64 y10)).setCell ⟨X,9,none⟩ (.bool true)) := Ext.set1 _ _ _ _
        have hX2 : Blk ((wx.setCell ⟨X,10,none⟩ (.int .i64 y10)).setCell ⟨X,9,none⟩ (.bool true)) X 55 #[.int .i64 y0,.int .i64 y1,.int .i64 y2,.int .i64 y3,.int .i64 y4,.int .i64 y5,.int .i64 y6,.int .i64 y7,.int .i64 y8,.bool true,.int .i64 y10] := hX1.Bf 9 _
        have c10f : wx.frozen? ⟨X,10,none⟩ = false := hX.frozen 10
        have b9 : (wx.setCell ⟨X,10,none⟩ (.int .i64 y10)).cell? ⟨X,9,none⟩ = some (.bool true) := hX1.cell 9
        have b9f : (wx.setCell ⟨X,10,none⟩ (.int .i64 y10)).frozen? ⟨X,9,none⟩ = false := hX1.frozen 9
        have y9c : (wx.setCell ⟨X,10,none⟩ (.int .i64 y10)).cell? ⟨Y,9,none⟩ = some (.bool true) := hs1.cell d9 (fun e => absurd (show Y = X from e) (by omega))
        have hY2 := (hYX.ext hs1 (fun e => absurd (show Y = X from e) (by omega))).ext hs2 (fun e => absurd (show Y = X from e) (by omega))
        have hx52 : Ext Nothing w5 ((wx.setCell ⟨X,10,none⟩ (.int .i64 y10)).setCell ⟨X,9,none⟩ (.bool true)) := (hx5X.trans hs1 (fun q hq e => absurd (show q = X from e) (by have h9 : q < w5.heap.size := hq; omega))).trans hs2 (fun q hq e => absurd (show q = X from e) (by have h9 : q < w5.heap.size := hq; omega))
        go_wp2_with (first | go_skip | go_guarded | ((with_reducible refine isW ?_); refine Ae rfl 55 _ rfl AB Y rfl #[.int .i64 y0,.int .i64 y1,.int .i64 y2,.int .i64 y3,.int .i64 y4,.int .i64 y5,.int .i64 y6,.int .i64 y7,.int .i64 y8,.bool true,.int .i64 y10] (show Blk _ _ 55 _ from hY2) rfl ?_) | ((with_reducible refine isW ?_); refine Ae rfl 55 _ rfl AB X rfl #[.int .i64 y0,.int .i64 y1,.int .i64 y2,.int .i64 y3,.int .i64 y4,.int .i64 y5,.int .i64 y6,.int .i64 y7,.int .i64 y8,.bool true,.int .i64 y10] (show Blk _ _ 55 _ from hX2) rfl ?_))
        go_roundw
        case rel => exact ⟨k + 1,HTK.out,by go_num,hx52⟩
        case measure => have := HTK.out; simp [intOf]; omega
       | false =>
        have hs1 : Ext (fun q => q = X) wx (wx.setCell ⟨X,10,none⟩ (.int .i64 y10)) := Ext.set1 _ _ _ _
        have hX1 : Blk (wx.setCell ⟨X,10,none⟩ (.int .i64 y10)) X 55 #[.int .i64 y0,.int .i64 y1,.int .i64 y2,.int .i64 y3,.int .i64 y4,.int .i64 y5,.int .i64 y6,.int .i64 y7,.int .i64 y8,.bool x9,.int .i64 y10] := hX.Bf 10 _
        have hs2 : Ext (fun q => q = X) (wx.setCell ⟨X,10,none⟩ (.int .i64 y10)) ((wx.setCell ⟨X,10,none⟩ (.int .i64 y10)).setCell ⟨X,9,none⟩ (.bool false)) := Ext.set1 _ _ _ _
        have hX2 : Blk ((wx.setCell ⟨X,10,none⟩ (.int .i64 y10)).setCell ⟨X,9,none⟩ (.bool false)) X 55 #[.int .i64 y0,.int .i64 y1,.int .i64 y2,.int .i64 y3,.int .i64 y4,.int .i64 y5,.int .i64 y6,.int .i64 y7,.int .i64 y8,.bool false,.int .i64 y10] := hX1.Bf 9 _
        have c10f : wx.frozen? ⟨X,10,none⟩ = false := hX.frozen 10
        have b9 : (wx.setCell ⟨X,10,none⟩ (.int .i64 y10)).cell? ⟨X,9,none⟩ = some (.bool x9) := hX1.cell 9
        have b9f : (wx.setCell ⟨X,10,none⟩ (.int .i64 y10)).frozen? ⟨X,9,none⟩ = false := hX1.frozen 9
        have y9c : (wx.setCell ⟨X,10,none⟩ (.int .i64 y10)).cell? ⟨Y,9,none⟩ = some (.bool false) := hs1.cell d9 (fun e => absurd (show Y = X from e) (by omega))
        have hY2 := (hYX.ext hs1 (fun e => absurd (show Y = X from e) (by omega))).ext hs2 (fun e => absurd (show Y = X from e) (by omega))
        have hx52 : Ext Nothing w5 ((wx.setCell ⟨X,10,none⟩ (.int .i64 y10)).setCell ⟨X,9,none⟩ (.bool false)) := (hx5X.trans hs1 (fun q hq e => absurd (show q = X from e) (by have h9 : q < w5.heap.size := hq; omega))).trans hs2 (fun q hq e => absurd (show q = X from e) (by have h9 : q < w5.heap.size := hq; omega))
        go_wp2_with (first | go_skip | go_guarded | ((with_reducible refine isW ?_); refine Ae rfl 55 _ rfl AB Y rfl #[.int .i64 y0,.int .i64 y1,.int .i64 y2,.int .i64 y3,.int .i64 y4,.int .i64 y5,.int .i64 y6,.int .i64 y7,.int .i64 y8,.bool false,.int .i64 y10] (show Blk _ _ 55 _ from hY2) rfl ?_) | ((with_reducible refine isW ?_); refine Ae rfl 55 _ rfl AB X rfl #[.int .i64 y0,.int .i64 y1,.int .i64 y2,.int .i64 y3,.int .i64 y4,.int .i64 y5,.int .i64 y6,.int .i64 y7,.int .i64 y8,.bool false,.int .i64 y10] (show Blk _ _ 55 _ from hX2) rfl ?_))
        go_roundw
        case rel => exact ⟨k + 1,HTK.out,by go_num,hx52⟩
        case measure => have := HTK.out; simp [intOf]; omega
     have hnl : ¬ ((k : Int) < sV.nA) := by omega
     have hT5r := hT5.e0 hx
     have hTr := hTs.e0 hx
     go_wp2_with (first | go_skip | go_guarded | ((with_reducible refine isW ?_); refine Ae rfl 30 _ rfl STStore TT rfl s5.arr (show Blk _ _ 30 _ from hT5r) rfl ?_) | ((with_reducible refine isW ?_); refine Af rfl 30 _ _ rfl STStore T rfl s5.arr rfl (show Blk _ _ 30 _ from hTr) rfl rfl rfl ?_; intro w8 hT8 hx8))
     go_roundw
     case rel => exact ⟨t + 1,HT.out,by go_num,s5,(hO5.AY hx).keep hx8 (Apart.one hTr (by decide)),HG5.out,hT8,(hxw5.tr hx).trans hx8 (fun q hq e => by have h9 : q < w.heap.size := hq; have : q = T := e; omega)⟩
     case measure => have := HT.out; simp [intOf]; omega
  have hnl : ¬ ((t : Int) < ln) := by omega
  go_wp2_with (first | go_skip | go_guarded | (go_at_call 17; (with_reducible refine (KG _).mono ?_); rintro e w9 ⟨rfl,hx9⟩))
  go_ret
  exact ⟨rfl,hx.tr hx9⟩
end Go.Proofs.YtccekmeifanipaaGreat
