/- Parts of the proof: Rises -/
import Derived.Test.YtccekmeifanipaaGreatR35
import Derived.Test.YtccekmeifanipaaGreatR32
import Derived.Test.YtccekmeifanipaaGreatR04
import Derived.Test.YtccekmeifanipaaGreatR03
import Derived.Test.YtccekmeifanipaaGreatR15
namespace Go.Proofs.YtccekmeifanipaaGreat
set_option linter.unusedVariables false
set_option linter.unusedSimpArgs false
set_option linter.unusedSectionVars false
open Go.RowKit
set_option maxRecDepth 20000 in
set_option maxHeartbeats 16000000 in
theorem Ow (LA:Option Addr) (ln lc:Nat) (l:List AP) (w:World) (hl:Sl w 27 LA ln (l.map AP.cells)) (hr:∀ c∈l,c.Read w) (hn:ln≤1048576) :
  Calls Tryz.prog 8 #[.slice LA ln lc] w fun e w'=>e=.returned (.bool true)∧Ext Nothing w w':=by
 go_enter Tryz.func8,Tryz.ntmps8
 have hln:=Lib.hid hl.len
 go_upto_region 2 with (first|go_skip|go_guarded|(go_at_call 14;(with_reducible refine (QV w).mono ?_);rintro e w1 ⟨rfl,hx1⟩))
 have hxT:Ext Nothing w1 (w1.alloc (.cells #[.int .i64 0,.int .i64 1,.slice none 0 0,.slice none 0 0,.slice none 0 0,.slice none 0 0,.slice none 0 0,.slice none 0 0,.slice none 0 0] 30)):=Ext.Al
 have hT0:Blk (w1.alloc (.cells #[.int .i64 0,.int .i64 1,.slice none 0 0,.slice none 0 0,.slice none 0 0,.slice none 0 0,.slice none 0 0,.slice none 0 0,.slice none 0 0] 30)) w1.heap.size 30 ES.arr:=Blk.new _ _ _
 have hzT:w.heap.size≤w1.heap.size:=hx1.size
 have hx0:=hx1.tr hxT
 generalize hTT:w1.heap.size=T at hT0 hzT ⊢
 generalize (w1.alloc (.cells #[.int .i64 0,.int .i64 1,.slice none 0 0,.slice none 0 0,.slice none 0 0,.slice none 0 0,.slice none 0 0,.slice none 0 0,.slice none 0 0] 30))=w2 at hT0 hx0 ⊢
 clear hxT hx1 hTT
 have hO0:Az w.heap.size w2 ES:=GX _ _
 go_wp2
 go_loopw [4] (fun ki wr=>∃ t:Nat,t≤ln∧ki=.int .i64 t∧∃ sV:Aa,Az w.heap.size wr sV∧Fsm.EA t sV.data∧Blk wr T 30 sV.arr∧Ext Nothing w wr) (fun ki _=>ln - (intOf ki).toNat)
 case atStart=>exact ⟨0,Nat.zero_le _,rfl,ES,hO0,Fsm.Ik,hT0,hx0⟩
 case round =>
  obtain ⟨t,ht,rfl,sV,hO,hG,hT,hx⟩:=hrel
  clear hO0 hT0 hx0
  by_cases hlt:t < ln
  ·obtain ⟨hjn,b,off,hLe,hce⟩:=hl.get hx hlt
   have hrd:=hr _ (List.getElem_mem hjn)
   generalize l[t]=c at hce hrd
   subst hLe
   have hk0:(0:Int)≤(t:Int):=by omega
   have hk1:(t:Int) < ln:=by omega
   have HW:=Lib.hid (show wrap64 ((t:Int)+1)=(t:Int)+1 by unfold wrap64;omega)
   have HT:=Lib.hid hlt
   have HG:=Lib.hid hG
   have hbw:b < w.heap.size:=by obtain ⟨q,hq⟩:=hl.blk (show 0 < ln by omega);exact hq
   have HCE:=Lib.hid (show ∀ j u,c.arr.toList[j]? = some u→wr.cell? ⟨b,off+t*27+j,none⟩=some u from hce)
   clear hce hG hlt
   go_upto_region 5 with (first|go_skip|go_guarded)
   (try simp only [Act.put,zA,zB,zC,zD,zE,zF])
   go_upto_region 5 with fail
   have hzw0:=hx.size
   go_cut [5,6] from 19 to 30 (fun e5 e6 wx=>∃ s2 r2 rv2 TT QQ,e5=.pointer (some ⟨TT,0,none⟩)∧e6=.pointer (some ⟨QQ,0,none⟩)∧Az w.heap.size wx s2∧Hid (Fsm.apply sV.data (wrap64 ((t:Int)+1)) c.d=(s2.data,r2))∧Blk wx TT 30 s2.arr∧Blk wx QQ 34 #[.int .i64 r2.code,.int .i64 r2.value,rv2]∧Dt w.heap.size wx rv2 r2.allocs∧wr.heap.size≤TT∧wr.heap.size≤QQ∧Ext Nothing wr wx)
   case first =>
    have hd:Ext Nothing wr wr.drew:=(Ext.refl _ _).drew
    refine zS (S:=fun W'=>Ext Nothing wr W') (by kernel_rfl) ?_
    generalize wr.drew=W at hd ⊢
    refine zV 0 (.agg sV.arr) rfl (by kernel_rfl) hd (fun _ _ _ h=>h) (fun W' hS'=>by exact Ar rfl STStore (by go_simp) (hT.e0 hS') rfl) ?_
    refine zV 1 (.int .i64 (t:Int)) rfl (by kernel_rfl) hd (fun _ _ _ h=>h) (fun W' hS'=>by go_simp) ?_
    refine zV 2 (.int .i64 (wrap64 ((t:Int)+1))) rfl (by kernel_rfl) hd (fun _ _ _ h=>h) (fun W' hS'=>by go_simp;rw [IntKind.wrap_i64];have:=HT.out;unfold wrap64;omega) ?_
    refine zV 3 (.slice (some ⟨b,off,none⟩) ln lc) rfl (by kernel_rfl) hd (fun _ _ _ h=>h) (fun W' hS'=>by go_simp) ?_
    refine zV 4 (.int .i64 (t:Int)) rfl (by kernel_rfl) hd (fun _ _ _ h=>h) (fun W' hS'=>by go_simp) ?_
    refine zV 5 (.pointer (some ⟨b,off+t*27,none⟩)) rfl (by kernel_rfl) hd (fun _ _ _ h=>h) (fun W' hS'=>by go_simp) ?_
    refine zV 6 (.agg c.arr) rfl (by kernel_rfl) hd (fun _ _ _ h=>h) (fun W' hS'=>by exact run_load_struct (sz:=27) (b:=b) (off:=off+t*27) rfl Er (by go_simp) (fun j u hu=>hS'.c0 (HCE.out j u hu)) rfl) ?_
    refine zV 7 (.agg (c.ent (wrap64 ((t:Int)+1)) 1)) rfl (by kernel_rfl) hd (fun _ _ _ h=>h) (fun W' hS'=>by go_simp) ?_
    (try simp only [Act.put,zA,zB,zC,zD,zE,zF])
    refine wpAnyH_all (rs:=[8,12,13]) (by kernel_rfl) (by simp) (List.forall_mem_cons.2 ⟨?_,(List.forall_mem_cons.2 ⟨?_,(List.forall_mem_cons.2 ⟨?_,(fun _ h=>absurd h (by simp))⟩)⟩)⟩)
    (focus
     refine Ai (f:=15) (args:=#[.agg sV.arr,.agg (c.ent (wrap64 ((t:Int)+1)) 1)]) rfl (by rfl) (by go_simp) ((Bq (base:=w.heap.size) (t:=t) (w:=W) (s:=sV) (c:=c) (ix:=(wrap64 ((t:Int)+1))) 1 (hO.Aw hd) HG.out.g (hrd.ME (hx.tr hd)) hrd.op (by have:=HT.out;omega) (by have:=HT.out;rw [HW.out];omega) (by rw [HW.out];omega)).mono ?_)
     rintro e W9 ⟨s2,r2,rv2,rfl,hO2,hF2,hres2,hx2⟩
     have hd0:=hd.size
     replace hO2:=hO2.base (show w.heap.size≤W.heap.size by have h8:=hd.size;omega)
     replace hd:=hd.tr hx2
     replace hres2:=hres2.base (show w.heap.size≤W.heap.size by have h8:=hd0;have h9:=hx.size;omega)
     clear hx2
     obtain ⟨W,rfl⟩ : ∃ z:World,z=W9:=⟨_,rfl⟩
     refine ⟨_,rfl,hd,?_⟩
     (try simp only [Act.put,zA,zB,zC,zD,zE,zF])
     refine zV 9 (.tuple #[.agg s2.arr,.agg #[.int .i64 r2.code,.int .i64 r2.value,rv2]]) rfl (by kernel_rfl) hd (fun _ _ _ h=>h) (fun W' hS'=>by go_simp) ?_
     refine zV 10 (.agg s2.arr) rfl (by kernel_rfl) hd (fun _ _ _ h=>h) (fun W' hS'=>by go_simp) ?_
     refine zV 11 (.agg #[.int .i64 r2.code,.int .i64 r2.value,rv2]) rfl (by kernel_rfl) hd (fun _ _ _ h=>h) (fun W' hS'=>by go_simp) ?_
     (try simp only [Act.put,zA,zB,zC,zD,zE,zF])
     refine wpAnyH_all (rs:=[12,13]) (by kernel_rfl) (by simp) (List.forall_mem_cons.2 ⟨?_,(List.forall_mem_cons.2 ⟨?_,(fun _ h=>absurd h (by simp))⟩)⟩)
     (focus
      refine wpOp_val (v:=.pointer (some ⟨W.heap.size,0,none⟩)) (w':=(W.alloc (.cells #[.int .i64 0,.int .i64 0,.slice none 0 0,.slice none 0 0,.slice none 0 0,.slice none 0 0,.slice none 0 0,.slice none 0 0,.slice none 0 0] 30))) rfl (by rfl) (by go_simp) ⟨hd.tr Ext.Al,?_⟩
      (try simp only [Act.put,zA,zB,zC,zD,zE,zF])
      have hA:Blk (W.alloc (.cells #[.int .i64 0,.int .i64 0,.slice none 0 0,.slice none 0 0,.slice none 0 0,.slice none 0 0,.slice none 0 0,.slice none 0 0,.slice none 0 0] 30)) W.heap.size 30 #[.int .i64 0,.int .i64 0,.slice none 0 0,.slice none 0 0,.slice none 0 0,.slice none 0 0,.slice none 0 0,.slice none 0 0,.slice none 0 0]:=Blk.new _ _ _
      have hal:Ext Nothing W (W.alloc (.cells #[.int .i64 0,.int .i64 0,.slice none 0 0,.slice none 0 0,.slice none 0 0,.slice none 0 0,.slice none 0 0,.slice none 0 0,.slice none 0 0] 30)):=Ext.Al
      have hzTT:=hd.size
      replace hd:=hd.tr hal
      replace hres2:=hres2.keep hal Apart.none
      replace hO2:=hO2.Aw hal
      generalize W.heap.size=TT at hA hzTT ⊢
      generalize (W.alloc (.cells #[.int .i64 0,.int .i64 0,.slice none 0 0,.slice none 0 0,.slice none 0 0,.slice none 0 0,.slice none 0 0,.slice none 0 0,.slice none 0 0] 30))=W at hres2 hA hd hO2 ⊢
      clear hal
      refine zO 13 (by kernel_rfl) ?_
      refine wpOp_val (v:=.pointer (some ⟨W.heap.size,0,none⟩)) (w':=(W.alloc (.cells #[.int .i64 0,.int .i64 0,.slice none 0 0] 34))) rfl (by rfl) (by go_simp) ⟨hd.tr Ext.Al,?_⟩
      (try simp only [Act.put,zA,zB,zC,zD,zE,zF])
      have hB:Blk (W.alloc (.cells #[.int .i64 0,.int .i64 0,.slice none 0 0] 34)) W.heap.size 34 #[.int .i64 0,.int .i64 0,.slice none 0 0]:=Blk.new _ _ _
      have hal:Ext Nothing W (W.alloc (.cells #[.int .i64 0,.int .i64 0,.slice none 0 0] 34)):=Ext.Al
      have hzQQ:=hd.size
      replace hd:=hd.tr hal
      replace hres2:=hres2.keep hal Apart.none
      replace hA:=hA.e0 hal
      replace hO2:=hO2.Aw hal
      generalize W.heap.size=QQ at hB hzQQ ⊢
      generalize (W.alloc (.cells #[.int .i64 0,.int .i64 0,.slice none 0 0] 34))=W at hres2 hB hd hA hO2 ⊢
      clear hal
      )
     rotate_left
     (focus
      refine wpOp_val (v:=.pointer (some ⟨W.heap.size,0,none⟩)) (w':=(W.alloc (.cells #[.int .i64 0,.int .i64 0,.slice none 0 0] 34))) rfl (by rfl) (by go_simp) ⟨hd.tr Ext.Al,?_⟩
      (try simp only [Act.put,zA,zB,zC,zD,zE,zF])
      have hB:Blk (W.alloc (.cells #[.int .i64 0,.int .i64 0,.slice none 0 0] 34)) W.heap.size 34 #[.int .i64 0,.int .i64 0,.slice none 0 0]:=Blk.new _ _ _
      have hal:Ext Nothing W (W.alloc (.cells #[.int .i64 0,.int .i64 0,.slice none 0 0] 34)):=Ext.Al
      have hzQQ:=hd.size
      replace hd:=hd.tr hal
      replace hres2:=hres2.keep hal Apart.none
      replace hO2:=hO2.Aw hal
      generalize W.heap.size=QQ at hB hzQQ ⊢
      generalize (W.alloc (.cells #[.int .i64 0,.int .i64 0,.slice none 0 0] 34))=W at hres2 hB hd hO2 ⊢
      clear hal
      refine zO 12 (by kernel_rfl) ?_
      refine wpOp_val (v:=.pointer (some ⟨W.heap.size,0,none⟩)) (w':=(W.alloc (.cells #[.int .i64 0,.int .i64 0,.slice none 0 0,.slice none 0 0,.slice none 0 0,.slice none 0 0,.slice none 0 0,.slice none 0 0,.slice none 0 0] 30))) rfl (by rfl) (by go_simp) ⟨hd.tr Ext.Al,?_⟩
      (try simp only [Act.put,zA,zB,zC,zD,zE,zF])
      have hA:Blk (W.alloc (.cells #[.int .i64 0,.int .i64 0,.slice none 0 0,.slice none 0 0,.slice none 0 0,.slice none 0 0,.slice none 0 0,.slice none 0 0,.slice none 0 0] 30)) W.heap.size 30 #[.int .i64 0,.int .i64 0,.slice none 0 0,.slice none 0 0,.slice none 0 0,.slice none 0 0,.slice none 0 0,.slice none 0 0,.slice none 0 0]:=Blk.new _ _ _
      have hal:Ext Nothing W (W.alloc (.cells #[.int .i64 0,.int .i64 0,.slice none 0 0,.slice none 0 0,.slice none 0 0,.slice none 0 0,.slice none 0 0,.slice none 0 0,.slice none 0 0] 30)):=Ext.Al
      have hzTT:=hd.size
      replace hd:=hd.tr hal
      replace hres2:=hres2.keep hal Apart.none
      replace hB:=hB.e0 hal
      replace hO2:=hO2.Aw hal
      generalize W.heap.size=TT at hA hzTT ⊢
      generalize (W.alloc (.cells #[.int .i64 0,.int .i64 0,.slice none 0 0,.slice none 0 0,.slice none 0 0,.slice none 0 0,.slice none 0 0,.slice none 0 0,.slice none 0 0] 30))=W at hres2 hA hd hB hO2 ⊢
      clear hal
      )
     rotate_left
     )
    rotate_left 2
    (focus
     refine wpOp_val (v:=.pointer (some ⟨W.heap.size,0,none⟩)) (w':=(W.alloc (.cells #[.int .i64 0,.int .i64 0,.slice none 0 0,.slice none 0 0,.slice none 0 0,.slice none 0 0,.slice none 0 0,.slice none 0 0,.slice none 0 0] 30))) rfl (by rfl) (by go_simp) ⟨hd.tr Ext.Al,?_⟩
     (try simp only [Act.put,zA,zB,zC,zD,zE,zF])
     have hA:Blk (W.alloc (.cells #[.int .i64 0,.int .i64 0,.slice none 0 0,.slice none 0 0,.slice none 0 0,.slice none 0 0,.slice none 0 0,.slice none 0 0,.slice none 0 0] 30)) W.heap.size 30 #[.int .i64 0,.int .i64 0,.slice none 0 0,.slice none 0 0,.slice none 0 0,.slice none 0 0,.slice none 0 0,.slice none 0 0,.slice none 0 0]:=Blk.new _ _ _
     have hal:Ext Nothing W (W.alloc (.cells #[.int .i64 0,.int .i64 0,.slice none 0 0,.slice none 0 0,.slice none 0 0,.slice none 0 0,.slice none 0 0,.slice none 0 0,.slice none 0 0] 30)):=Ext.Al
     have hzTT:=hd.size
     replace hd:=hd.tr hal
     generalize W.heap.size=TT at hA hzTT ⊢
     generalize (W.alloc (.cells #[.int .i64 0,.int .i64 0,.slice none 0 0,.slice none 0 0,.slice none 0 0,.slice none 0 0,.slice none 0 0,.slice none 0 0,.slice none 0 0] 30))=W at hA hd ⊢
     clear hal
     refine wpAnyH_all (rs:=[8,13]) (by kernel_rfl) (by simp) (List.forall_mem_cons.2 ⟨?_,(List.forall_mem_cons.2 ⟨?_,(fun _ h=>absurd h (by simp))⟩)⟩)
     (focus
      refine Ai (f:=15) (args:=#[.agg sV.arr,.agg (c.ent (wrap64 ((t:Int)+1)) 1)]) rfl (by rfl) (by go_simp) ((Bq (base:=w.heap.size) (t:=t) (w:=W) (s:=sV) (c:=c) (ix:=(wrap64 ((t:Int)+1))) 1 (hO.Aw hd) HG.out.g (hrd.ME (hx.tr hd)) hrd.op (by have:=HT.out;omega) (by have:=HT.out;rw [HW.out];omega) (by rw [HW.out];omega)).mono ?_)
      rintro e W9 ⟨s2,r2,rv2,rfl,hO2,hF2,hres2,hx2⟩
      have hd0:=hd.size
      replace hO2:=hO2.base (show w.heap.size≤W.heap.size by have h8:=hd.size;omega)
      replace hd:=hd.tr hx2
      replace hA:=hA.e0 hx2
      replace hres2:=hres2.base (show w.heap.size≤W.heap.size by have h8:=hd0;have h9:=hx.size;omega)
      clear hx2
      obtain ⟨W,rfl⟩ : ∃ z:World,z=W9:=⟨_,rfl⟩
      refine ⟨_,rfl,hd,?_⟩
      (try simp only [Act.put,zA,zB,zC,zD,zE,zF])
      refine zV 9 (.tuple #[.agg s2.arr,.agg #[.int .i64 r2.code,.int .i64 r2.value,rv2]]) rfl (by kernel_rfl) hd (fun _ _ _ h=>h) (fun W' hS'=>by go_simp) ?_
      refine zV 10 (.agg s2.arr) rfl (by kernel_rfl) hd (fun _ _ _ h=>h) (fun W' hS'=>by go_simp) ?_
      refine zV 11 (.agg #[.int .i64 r2.code,.int .i64 r2.value,rv2]) rfl (by kernel_rfl) hd (fun _ _ _ h=>h) (fun W' hS'=>by go_simp) ?_
      (try simp only [Act.put,zA,zB,zC,zD,zE,zF])
      refine zO 13 (by kernel_rfl) ?_
      refine wpOp_val (v:=.pointer (some ⟨W.heap.size,0,none⟩)) (w':=(W.alloc (.cells #[.int .i64 0,.int .i64 0,.slice none 0 0] 34))) rfl (by rfl) (by go_simp) ⟨hd.tr Ext.Al,?_⟩
      (try simp only [Act.put,zA,zB,zC,zD,zE,zF])
      have hB:Blk (W.alloc (.cells #[.int .i64 0,.int .i64 0,.slice none 0 0] 34)) W.heap.size 34 #[.int .i64 0,.int .i64 0,.slice none 0 0]:=Blk.new _ _ _
      have hal:Ext Nothing W (W.alloc (.cells #[.int .i64 0,.int .i64 0,.slice none 0 0] 34)):=Ext.Al
      have hzQQ:=hd.size
      replace hd:=hd.tr hal
      replace hres2:=hres2.keep hal Apart.none
      replace hA:=hA.e0 hal
      replace hO2:=hO2.Aw hal
      generalize W.heap.size=QQ at hB hzQQ ⊢
      generalize (W.alloc (.cells #[.int .i64 0,.int .i64 0,.slice none 0 0] 34))=W at hres2 hB hd hA hO2 ⊢
      clear hal
      )
     rotate_left
     (focus
      refine wpOp_val (v:=.pointer (some ⟨W.heap.size,0,none⟩)) (w':=(W.alloc (.cells #[.int .i64 0,.int .i64 0,.slice none 0 0] 34))) rfl (by rfl) (by go_simp) ⟨hd.tr Ext.Al,?_⟩
      (try simp only [Act.put,zA,zB,zC,zD,zE,zF])
      have hB:Blk (W.alloc (.cells #[.int .i64 0,.int .i64 0,.slice none 0 0] 34)) W.heap.size 34 #[.int .i64 0,.int .i64 0,.slice none 0 0]:=Blk.new _ _ _
      have hal:Ext Nothing W (W.alloc (.cells #[.int .i64 0,.int .i64 0,.slice none 0 0] 34)):=Ext.Al
      have hzQQ:=hd.size
      replace hd:=hd.tr hal
      replace hA:=hA.e0 hal
      generalize W.heap.size=QQ at hB hzQQ ⊢
      generalize (W.alloc (.cells #[.int .i64 0,.int .i64 0,.slice none 0 0] 34))=W at hB hd hA ⊢
      clear hal
      refine zO 8 (by kernel_rfl) ?_
      refine Ai (f:=15) (args:=#[.agg sV.arr,.agg (c.ent (wrap64 ((t:Int)+1)) 1)]) rfl (by rfl) (by go_simp) ((Bq (base:=w.heap.size) (t:=t) (w:=W) (s:=sV) (c:=c) (ix:=(wrap64 ((t:Int)+1))) 1 (hO.Aw hd) HG.out.g (hrd.ME (hx.tr hd)) hrd.op (by have:=HT.out;omega) (by have:=HT.out;rw [HW.out];omega) (by rw [HW.out];omega)).mono ?_)
      rintro e W9 ⟨s2,r2,rv2,rfl,hO2,hF2,hres2,hx2⟩
      have hd0:=hd.size
      replace hO2:=hO2.base (show w.heap.size≤W.heap.size by have h8:=hd.size;omega)
      replace hd:=hd.tr hx2
      replace hA:=hA.e0 hx2
      replace hB:=hB.e0 hx2
      replace hres2:=hres2.base (show w.heap.size≤W.heap.size by have h8:=hd0;have h9:=hx.size;omega)
      clear hx2
      obtain ⟨W,rfl⟩ : ∃ z:World,z=W9:=⟨_,rfl⟩
      refine ⟨_,rfl,hd,?_⟩
      (try simp only [Act.put,zA,zB,zC,zD,zE,zF])
      refine zV 9 (.tuple #[.agg s2.arr,.agg #[.int .i64 r2.code,.int .i64 r2.value,rv2]]) rfl (by kernel_rfl) hd (fun _ _ _ h=>h) (fun W' hS'=>by go_simp) ?_
      refine zV 10 (.agg s2.arr) rfl (by kernel_rfl) hd (fun _ _ _ h=>h) (fun W' hS'=>by go_simp) ?_
      refine zV 11 (.agg #[.int .i64 r2.code,.int .i64 r2.value,rv2]) rfl (by kernel_rfl) hd (fun _ _ _ h=>h) (fun W' hS'=>by go_simp) ?_
      (try simp only [Act.put,zA,zB,zC,zD,zE,zF])
      )
     rotate_left
     )
    rotate_left 2
    (focus
     refine wpOp_val (v:=.pointer (some ⟨W.heap.size,0,none⟩)) (w':=(W.alloc (.cells #[.int .i64 0,.int .i64 0,.slice none 0 0] 34))) rfl (by rfl) (by go_simp) ⟨hd.tr Ext.Al,?_⟩
     (try simp only [Act.put,zA,zB,zC,zD,zE,zF])
     have hB:Blk (W.alloc (.cells #[.int .i64 0,.int .i64 0,.slice none 0 0] 34)) W.heap.size 34 #[.int .i64 0,.int .i64 0,.slice none 0 0]:=Blk.new _ _ _
     have hal:Ext Nothing W (W.alloc (.cells #[.int .i64 0,.int .i64 0,.slice none 0 0] 34)):=Ext.Al
     have hzQQ:=hd.size
     replace hd:=hd.tr hal
     generalize W.heap.size=QQ at hB hzQQ ⊢
     generalize (W.alloc (.cells #[.int .i64 0,.int .i64 0,.slice none 0 0] 34))=W at hB hd ⊢
     clear hal
     refine wpAnyH_all (rs:=[8,12]) (by kernel_rfl) (by simp) (List.forall_mem_cons.2 ⟨?_,(List.forall_mem_cons.2 ⟨?_,(fun _ h=>absurd h (by simp))⟩)⟩)
     (focus
      refine Ai (f:=15) (args:=#[.agg sV.arr,.agg (c.ent (wrap64 ((t:Int)+1)) 1)]) rfl (by rfl) (by go_simp) ((Bq (base:=w.heap.size) (t:=t) (w:=W) (s:=sV) (c:=c) (ix:=(wrap64 ((t:Int)+1))) 1 (hO.Aw hd) HG.out.g (hrd.ME (hx.tr hd)) hrd.op (by have:=HT.out;omega) (by have:=HT.out;rw [HW.out];omega) (by rw [HW.out];omega)).mono ?_)
      rintro e W9 ⟨s2,r2,rv2,rfl,hO2,hF2,hres2,hx2⟩
      have hd0:=hd.size
      replace hO2:=hO2.base (show w.heap.size≤W.heap.size by have h8:=hd.size;omega)
      replace hd:=hd.tr hx2
      replace hB:=hB.e0 hx2
      replace hres2:=hres2.base (show w.heap.size≤W.heap.size by have h8:=hd0;have h9:=hx.size;omega)
      clear hx2
      obtain ⟨W,rfl⟩ : ∃ z:World,z=W9:=⟨_,rfl⟩
      refine ⟨_,rfl,hd,?_⟩
      (try simp only [Act.put,zA,zB,zC,zD,zE,zF])
      refine zV 9 (.tuple #[.agg s2.arr,.agg #[.int .i64 r2.code,.int .i64 r2.value,rv2]]) rfl (by kernel_rfl) hd (fun _ _ _ h=>h) (fun W' hS'=>by go_simp) ?_
      refine zV 10 (.agg s2.arr) rfl (by kernel_rfl) hd (fun _ _ _ h=>h) (fun W' hS'=>by go_simp) ?_
      refine zV 11 (.agg #[.int .i64 r2.code,.int .i64 r2.value,rv2]) rfl (by kernel_rfl) hd (fun _ _ _ h=>h) (fun W' hS'=>by go_simp) ?_
      (try simp only [Act.put,zA,zB,zC,zD,zE,zF])
      refine zO 12 (by kernel_rfl) ?_
      refine wpOp_val (v:=.pointer (some ⟨W.heap.size,0,none⟩)) (w':=(W.alloc (.cells #[.int .i64 0,.int .i64 0,.slice none 0 0,.slice none 0 0,.slice none 0 0,.slice none 0 0,.slice none 0 0,.slice none 0 0,.slice none 0 0] 30))) rfl (by rfl) (by go_simp) ⟨hd.tr Ext.Al,?_⟩
      (try simp only [Act.put,zA,zB,zC,zD,zE,zF])
      have hA:Blk (W.alloc (.cells #[.int .i64 0,.int .i64 0,.slice none 0 0,.slice none 0 0,.slice none 0 0,.slice none 0 0,.slice none 0 0,.slice none 0 0,.slice none 0 0] 30)) W.heap.size 30 #[.int .i64 0,.int .i64 0,.slice none 0 0,.slice none 0 0,.slice none 0 0,.slice none 0 0,.slice none 0 0,.slice none 0 0,.slice none 0 0]:=Blk.new _ _ _
      have hal:Ext Nothing W (W.alloc (.cells #[.int .i64 0,.int .i64 0,.slice none 0 0,.slice none 0 0,.slice none 0 0,.slice none 0 0,.slice none 0 0,.slice none 0 0,.slice none 0 0] 30)):=Ext.Al
      have hzTT:=hd.size
      replace hd:=hd.tr hal
      replace hres2:=hres2.keep hal Apart.none
      replace hB:=hB.e0 hal
      replace hO2:=hO2.Aw hal
      generalize W.heap.size=TT at hA hzTT ⊢
      generalize (W.alloc (.cells #[.int .i64 0,.int .i64 0,.slice none 0 0,.slice none 0 0,.slice none 0 0,.slice none 0 0,.slice none 0 0,.slice none 0 0,.slice none 0 0] 30))=W at hres2 hA hd hB hO2 ⊢
      clear hal
      )
     rotate_left
     (focus
      refine wpOp_val (v:=.pointer (some ⟨W.heap.size,0,none⟩)) (w':=(W.alloc (.cells #[.int .i64 0,.int .i64 0,.slice none 0 0,.slice none 0 0,.slice none 0 0,.slice none 0 0,.slice none 0 0,.slice none 0 0,.slice none 0 0] 30))) rfl (by rfl) (by go_simp) ⟨hd.tr Ext.Al,?_⟩
      (try simp only [Act.put,zA,zB,zC,zD,zE,zF])
      have hA:Blk (W.alloc (.cells #[.int .i64 0,.int .i64 0,.slice none 0 0,.slice none 0 0,.slice none 0 0,.slice none 0 0,.slice none 0 0,.slice none 0 0,.slice none 0 0] 30)) W.heap.size 30 #[.int .i64 0,.int .i64 0,.slice none 0 0,.slice none 0 0,.slice none 0 0,.slice none 0 0,.slice none 0 0,.slice none 0 0,.slice none 0 0]:=Blk.new _ _ _
      have hal:Ext Nothing W (W.alloc (.cells #[.int .i64 0,.int .i64 0,.slice none 0 0,.slice none 0 0,.slice none 0 0,.slice none 0 0,.slice none 0 0,.slice none 0 0,.slice none 0 0] 30)):=Ext.Al
      have hzTT:=hd.size
      replace hd:=hd.tr hal
      replace hB:=hB.e0 hal
      generalize W.heap.size=TT at hA hzTT ⊢
      generalize (W.alloc (.cells #[.int .i64 0,.int .i64 0,.slice none 0 0,.slice none 0 0,.slice none 0 0,.slice none 0 0,.slice none 0 0,.slice none 0 0,.slice none 0 0] 30))=W at hA hd hB ⊢
      clear hal
      refine zO 8 (by kernel_rfl) ?_
      refine Ai (f:=15) (args:=#[.agg sV.arr,.agg (c.ent (wrap64 ((t:Int)+1)) 1)]) rfl (by rfl) (by go_simp) ((Bq (base:=w.heap.size) (t:=t) (w:=W) (s:=sV) (c:=c) (ix:=(wrap64 ((t:Int)+1))) 1 (hO.Aw hd) HG.out.g (hrd.ME (hx.tr hd)) hrd.op (by have:=HT.out;omega) (by have:=HT.out;rw [HW.out];omega) (by rw [HW.out];omega)).mono ?_)
      rintro e W9 ⟨s2,r2,rv2,rfl,hO2,hF2,hres2,hx2⟩
      have hd0:=hd.size
      replace hO2:=hO2.base (show w.heap.size≤W.heap.size by have h8:=hd.size;omega)
      replace hd:=hd.tr hx2
      replace hA:=hA.e0 hx2
      replace hB:=hB.e0 hx2
      replace hres2:=hres2.base (show w.heap.size≤W.heap.size by have h8:=hd0;have h9:=hx.size;omega)
      clear hx2
      obtain ⟨W,rfl⟩ : ∃ z:World,z=W9:=⟨_,rfl⟩
      refine ⟨_,rfl,hd,?_⟩
      (try simp only [Act.put,zA,zB,zC,zD,zE,zF])
      refine zV 9 (.tuple #[.agg s2.arr,.agg #[.int .i64 r2.code,.int .i64 r2.value,rv2]]) rfl (by kernel_rfl) hd (fun _ _ _ h=>h) (fun W' hS'=>by go_simp) ?_
      refine zV 10 (.agg s2.arr) rfl (by kernel_rfl) hd (fun _ _ _ h=>h) (fun W' hS'=>by go_simp) ?_
      refine zV 11 (.agg #[.int .i64 r2.code,.int .i64 r2.value,rv2]) rfl (by kernel_rfl) hd (fun _ _ _ h=>h) (fun W' hS'=>by go_simp) ?_
      (try simp only [Act.put,zA,zB,zC,zD,zE,zF])
      )
     rotate_left
     )
    rotate_left 2
    all_goals (
     refine zO 14 (by kernel_rfl) ?_
     refine Bd (p:=TT) (cs:=s2.arr) rfl (by rfl) rfl (by go_simp) (by go_simp) hA rfl STStore rfl rfl (fun w3 hA3 hx3=>?_)
     have hd3:=hd.trans hx3 (fun q hq e=>absurd (show q=TT from e) (by omega))
     have hB3:=hB.ext hx3 (fun e=>Blk.ne hB hA (by decide) e)
     refine ⟨hd3,?_⟩
     (try simp only [Act.put,zA,zB,zC,zD,zE,zF])
     refine zO 15 (by kernel_rfl) ?_
     obtain ⟨RA9,rc9,rfl,hro⟩:=hres2
     refine Bd (p:=QQ) (cs:=#[.int .i64 r2.code,.int .i64 r2.value,.slice RA9 r2.allocs.length rc9]) rfl (by rfl) rfl (by go_simp) (by go_simp) hB3 rfl STResult rfl rfl (fun w4 hB4 hx4=>?_)
     have hd4:=hd3.trans hx4 (fun q hq e=>absurd (show q=QQ from e) (by omega))
     have hA4:=hA3.ext hx4 (fun e=>Blk.ne hA3 hB3 (by decide) e)
     have hres2:Dt w.heap.size W (.slice RA9 r2.allocs.length rc9) r2.allocs:=⟨RA9,rc9,rfl,hro⟩
     refine ⟨hd4,wpAnyH_done (by kernel_rfl) ?_ _⟩
     (try simp only [Act.put,zA,zB,zC,zD,zE,zF])
     go_wp2
     go_meet
     exact ⟨s2,r2,_,TT,QQ,rfl,rfl,(hO2.keep hx3 (Apart.one hA (by decide))).keep hx4 (Apart.one hB3 (by decide)),Lib.hid hF2,hA4,hB4,(hres2.keep hx3 (Apart.one hA (by decide))).keep hx4 (Apart.one hB3 (by decide)),hzTT,hzQQ,hd4⟩
     )
   case rest =>
    obtain ⟨s5,r5,rv5,TT,QQ,rfl,rfl,hO5,HF5,hT5,hE5,hres5,hz5,hzq5,hx5⟩:=hcut
    obtain ⟨w5,rfl⟩ : ∃ z:World,z=wc:=⟨_,rfl⟩
    have HG5:=Lib.hid (show Fsm.EA (t+1) s5.data by have h9:=Fsm.GM HG.out (by have:=HT.out;omega) hrd.EI;rw [← HW.out,HF5.out] at h9;exact h9)
    have HWN:=Lib.hid (Fsm.O1 HG.out.g.num hrd.EI (by have:=HT.out;omega) HF5.out).2
    have HRI:=Lib.hid (show Fsm.Ch sV.data s5.data by have h9:=(Fsm.Jr HG.out.v (by have:=HT.out;omega) HG.out.g.stt (wrap64 ((t:Int)+1)) c.d).1;rw [HF5.out] at h9;exact h9)
    obtain ⟨ql1,ql2,ql3,ql4,ql5,ql6,ql7⟩:=CF HG.out.g (show t≤1048576 by have:=HT.out;omega)
    have hmJ:sV.nJ≤1048576:=by have:=hO.jl;have:=HT.out;omega
    have hmS:sV.nS≤1048576:=by have:=hO.tl;have:=HT.out;omega
    have hmN:sV.nN≤1048576:=by have:=hO.nl;have:=HT.out;omega
    have hmA:sV.nA≤64:=by have:=hO.al;have:=HT.out;omega
    have hmE:sV.nE≤1048576:=by have:=hO.el;have:=HT.out;omega
    have hmD:sV.nD≤1048576:=by have:=hO.dl;have:=HT.out;omega
    clear ql1 ql2 ql3 ql4 ql5 ql6 ql7
    obtain ⟨ql1,ql2,ql3,ql4,ql5,ql6,ql7⟩:=CF HG5.out.g (show t+1≤1048576 by have:=HT.out;omega)
    have hkJ:s5.nJ≤1048576:=by have:=hO5.jl;have:=HT.out;omega
    have hkS:s5.nS≤1048576:=by have:=hO5.tl;have:=HT.out;omega
    have hkN:s5.nN≤1048576:=by have:=hO5.nl;have:=HT.out;omega
    have hkA:s5.nA≤64:=by have:=hO5.al;have:=HT.out;omega
    have hkE:s5.nE≤1048576:=by have:=hO5.el;have:=HT.out;omega
    have hkD:s5.nD≤1048576:=by have:=hO5.dl;have:=HT.out;omega
    clear ql1 ql2 ql3 ql4 ql5 ql6 ql7
    have hTs:=hT.e0 hx5
    have hOs:=hO.Aw hx5
    have hxw5:=hx.tr hx5
    clear hT hO hx hE5 hres5
    go_wp2
    go_loopw [7] (fun ki wr=>∃ k:Nat,k≤sV.nJ∧ki=.int .i64 k∧Ext Nothing w5 wr) (fun ki _=>sV.nJ - (intOf ki).toNat)
    case atStart=>exact ⟨0,Nat.zero_le _,rfl,Ext.refl _ _⟩
    case round =>
     obtain ⟨k,hk,rfl,hx⟩:=hrel
     have m2:wr.cell? ⟨T,2,none⟩=some (.slice sV.AJ sV.nJ sV.cJ):=(hTs.e0 hx).cell 2
     by_cases hlt:k < sV.nJ
     ·as_aux_lemma =>
       obtain ⟨hjn,g,offa,hAe,hace⟩:=hOs.slJ.get hx hlt
       have hym:sV.jobs[k]? = some sV.jobs[k]:=List.getElem?_eq_getElem hjn
       generalize sV.jobs[k]=x at hace hym
       rw [hAe] at m2
       have HAE:=Lib.hid hAe
       have HYM:=Lib.hid hym
       have HTK:=Lib.hid hlt
       have hk0' : (0:Int)≤(k:Int):=by omega
       clear hAe hym hlt
       have hk1' : (k:Int) < sV.nJ:=by have:=HTK.out;omega
       obtain ⟨q,hq1,hq2,hq3,hq4⟩:=HRI.out.jobs x.1 (List.mem_map_of_mem (List.mem_of_getElem? HYM.out))
       have hvb:=HG.out.v.jv x.1 (List.mem_map_of_mem (List.mem_of_getElem? HYM.out))
       obtain ⟨⟨x0,x1,x2,x3,xg,x5,x6⟩,xv⟩:=x
       rcases AC (fun y:JobV=>y.1.id == x0) s5.jobs with ⟨hi,hf,_⟩|⟨i,y,hi,hyi,hp,hf,_⟩
       ·exact absurd (show Fsm.AB s5.data x0=none from Ce hf) (by rw [hq1];simp)
       have hqy:q=y.1:=by have h9:=BQ hf;rw [show Fsm.AB s5.data x0=some q from hq1] at h9;exact Option.some.inj h9
       subst hqy
       obtain ⟨⟨y0,y1,y2,y3,yg,y5,y6⟩,yv⟩:=y
       have hq4:y1=x1:=hq4
       subst hq4
       have hwr:wrap64 (x5+1)=x5+1:=by have h9:1≤x5∧x5≤1099511627776:=hvb;unfold wrap64;omega
       have v1:decide (y5 < x5)=false:=by have h9:x5≤y5:=hq2;simp;omega
       have v2:decide (x5+1 < y5)=false:=by have h9:y5≤x5+1:=hq3;simp;omega
       have v3:(y1 != y1)=false:=by simp
       have HI:=Lib.hid hi
       have hid:decide ((i:Int) < 0)=false:=by simp
       have hi0:(0:Int)≤(i:Int):=by omega
       have hi1:(i:Int) < s5.nJ:=by have:=hO5.jl;have:=(List.getElem?_eq_some_iff.1 hyi).1;omega
       have hTT:=hT5.e0 hx
       have hsl:=(hO5.Aw hx).slJ
       have hkJ9:s5.nJ≤67108864:=by omega
       have a0:wr.cell? ⟨g,offa+k*7,none⟩=some (.int .i64 x0):=hace 0 _ rfl
       have a1:wr.cell? ⟨g,offa+k*7+1,none⟩=some (.int .i64 y1):=hace 1 _ rfl
       have a5:wr.cell? ⟨g,offa+k*7+5,none⟩=some (.int .i64 x5):=hace 5 _ rfl
       obtain ⟨gx,_,hAx,_,_,_,hxce,_⟩:=(hO5.Aw hx).MZ hyi
       have n2:wr.cell? ⟨TT,2,none⟩=some (.slice (some ⟨gx,0,none⟩) s5.nJ s5.cJ):=by rw [← hAx];exact hTT.cell 2
       have b1:wr.cell? ⟨gx,i*7+1,none⟩=some (.int .i64 y1):=hxce 1 _ rfl
       have b5:wr.cell? ⟨gx,i*7+5,none⟩=some (.int .i64 y5):=hxce 5 _ rfl
       clear hAx hxce hace hi hf hyi hp hq1 hq2 hq3 hvb
       go_upto_region 9 with (first|go_skip|go_guarded)
       refine Au (by kernel_rfl) (by kernel_rfl) ?_
       repeat (first|go_big_quiet_skip|(go_big_quiet_want;(first|((refine AY rfl ?_);(first|(refine Ae (p:=⟨TT,0,none⟩) (v:=.agg s5.arr) ?_ ?_ ?_;(focus rfl);(focus (intro W' hW;exact Ar rfl STStore (by go_simp) (hTT.e0 hW) rfl;done)))|(refine Ae (p:=⟨T,2,none⟩) (v:=.slice (some ⟨g,offa,none⟩) sV.nJ sV.cJ) ?_ ?_ ?_;(focus rfl);(focus (intro W' hW;have q:=hW.c0 m2;go_simp;done)))|(refine Ae (p:=⟨g,offa+k*7,none⟩) (v:=.int .i64 x0) ?_ ?_ ?_;(focus rfl);(focus (intro W' hW;have q:=hW.c0 a0;go_simp;done))));(try simp only [Act.put,zA,zB,zC,zD,zE,zF]))|((refine Bp rfl ?_);(first|(refine Am (f:=22) (args:=#[.agg s5.arr,.int .i64 x0]) (v:=.int .i64 (i:Int)) ?_ ?_ ?_;(focus (intro W' hW;go_simp;done));(focus (intro W' hW;refine (Hy s5.AJ s5.nJ s5.cJ s5.jobs x0 W' (hsl.Ap hW) hkJ9 _ _ _ _ _ _ _ _).mono ?_;intro e w' hcc;obtain ⟨he,hxu⟩:=hcc;refine ⟨?_,hxu⟩;rw [he,HI.out];done))));(try simp only [Act.put,zA,zB,zC,zD,zE,zF]))|go_big_quiet_op);go_big_quiet_on))
       refine wpQuiet_nil ?_
       intro w6 hx6
       have m2:=hx6.c0 m2
       have n2:=hx6.c0 n2
       have a1:=hx6.c0 a1
       have a5:=hx6.c0 a5
       have b1:=hx6.c0 b1
       have b5:=hx6.c0 b5
       clear a0
       go_upto_region 10 with (first|go_skip|go_guarded)
       refine Au (by kernel_rfl) (by kernel_rfl) ?_
       repeat (first|go_big_quiet_skip|(go_big_quiet_want;(first|((refine AY rfl ?_);(first|(refine Ae (p:=⟨TT,2,none⟩) (v:=.slice (some ⟨gx,0,none⟩) s5.nJ s5.cJ) ?_ ?_ ?_;(focus rfl);(focus (intro W' hW;have q:=hW.c0 n2;go_simp;done)))|(refine Ae (p:=⟨T,2,none⟩) (v:=.slice (some ⟨g,offa,none⟩) sV.nJ sV.cJ) ?_ ?_ ?_;(focus rfl);(focus (intro W' hW;have q:=hW.c0 m2;go_simp;done)))|(refine Ae (p:=⟨gx,i*7+5,none⟩) (v:=.int .i64 y5) ?_ ?_ ?_;(focus rfl);(focus (intro W' hW;have q:=hW.c0 b5;go_simp;done)))|(refine Ae (p:=⟨gx,i*7+1,none⟩) (v:=.int .i64 y1) ?_ ?_ ?_;(focus rfl);(focus (intro W' hW;have q:=hW.c0 b1;go_simp;done)))|(refine Ae (p:=⟨g,offa+k*7+5,none⟩) (v:=.int .i64 x5) ?_ ?_ ?_;(focus rfl);(focus (intro W' hW;have q:=hW.c0 a5;go_simp;done)))|(refine Ae (p:=⟨g,offa+k*7+1,none⟩) (v:=.int .i64 y1) ?_ ?_ ?_;(focus rfl);(focus (intro W' hW;have q:=hW.c0 a1;go_simp;done))));(try simp only [Act.put,zA,zB,zC,zD,zE,zF]);(try simp only [hid]);(try simp only [hwr]);(try simp only [v1]);(try simp only [v2]);(try simp only [v3]))|go_big_quiet_op);go_big_quiet_on))
       refine wpQuiet_nil ?_
       intro w7 hx7
       have hxn:=(hx.tr hx6).tr hx7
       go_wp2_with (first|go_skip|go_guarded)
       go_roundw
       case rel=>exact ⟨k+1,HTK.out,by go_num,hxn⟩
       case measure=>have:=HTK.out;simp [intOf];omega
     have hnl:¬ ((k:Int) < sV.nJ):=by omega
     have hx1:=hx
     clear hx
     go_wp2
     go_loopw [9] (fun ki wr=>∃ k:Nat,k≤sV.nN∧ki=.int .i64 k∧Ext Nothing w5 wr) (fun ki _=>sV.nN - (intOf ki).toNat)
     case atStart=>exact ⟨0,Nat.zero_le _,rfl,hx1⟩
     case round =>
      obtain ⟨k,hk,rfl,hx⟩:=hrel
      have m4:wr.cell? ⟨T,4,none⟩=some (.slice sV.AN sV.nN sV.cN):=(hTs.e0 hx).cell 4
      by_cases hlt:k < sV.nN
      ·as_aux_lemma =>
        obtain ⟨hjn,g,offa,hAe,hace⟩:=hOs.slN.get hx hlt
        have hym:sV.nodes[k]? = some sV.nodes[k]:=List.getElem?_eq_getElem hjn
        generalize sV.nodes[k]=x at hace hym
        rw [hAe] at m4
        have HAE:=Lib.hid hAe
        have HYM:=Lib.hid hym
        have HTK:=Lib.hid hlt
        have hk0' : (0:Int)≤(k:Int):=by omega
        clear hAe hym hlt
        have hk1' : (k:Int) < sV.nN:=by have:=HTK.out;omega
        obtain ⟨q,hq1,hq2,hq3,hq4,hq5⟩:=HRI.out.nodes x (List.mem_of_getElem? HYM.out)
        have hvb:=HG.out.v.ne x (List.mem_of_getElem? HYM.out)
        obtain ⟨x0,⟨x1,x2⟩,x3,x4,x5,x6,x7⟩:=x
        rcases AC (fun y:NodD=>y.id == x0) s5.nodes with ⟨hi,hf,_⟩|⟨i,y,hi,hyi,hp,hf,_⟩
        ·exact absurd (show Fsm.nodeAt s5.data x0=none from hf) (by rw [hq1];simp)
        have hqy:q=y:=by have h9:Fsm.nodeAt s5.data x0=some y:=hf;rw [show Fsm.nodeAt s5.data x0=some q from hq1] at h9;exact Option.some.inj h9
        subst hqy
        obtain ⟨y0,⟨y1,y2⟩,y3,y4,y5,y6,y7⟩:=q
        have hwr:wrap64 (x6+1)=x6+1:=by have h9:0≤x6∧x6≤_:=hvb;unfold wrap64;have:=HT.out;omega
        have v1:decide (y6 < x6)=false:=by have h9:x6≤y6:=hq2;simp;omega
        have v2:decide (x6+1 < y6)=false:=by have h9:y6≤x6+1:=hq3;simp;omega
        have v3:decide (y5 < x5)=false:=by have h9:x5≤y5:=hq4;simp;omega
        have HQ5:=Lib.hid (show y6=x6→x7≤y7 from hq5)
        have HI:=Lib.hid hi
        have hid:decide ((i:Int) < 0)=false:=by simp
        have hi0:(0:Int)≤(i:Int):=by omega
        have hi1:(i:Int) < s5.nN:=by have:=hO5.nl;have:=(List.getElem?_eq_some_iff.1 hyi).1;omega
        have hTT:=hT5.e0 hx
        have hsl:=(hO5.Aw hx).slN
        have hkN9:s5.nN≤67108864:=by omega
        have a0:wr.cell? ⟨g,offa+k*8,none⟩=some (.int .i64 x0):=hace 0 _ rfl
        have a5:wr.cell? ⟨g,offa+k*8+5,none⟩=some (.int .i64 x5):=hace 5 _ rfl
        have a6:wr.cell? ⟨g,offa+k*8+6,none⟩=some (.int .i64 x6):=hace 6 _ rfl
        have a7:wr.cell? ⟨g,offa+k*8+7,none⟩=some (.int .i64 x7):=hace 7 _ rfl
        obtain ⟨gx,_,hAx,_,_,_,hxce,_⟩:=(hO5.Aw hx).Ha hyi
        have n4:wr.cell? ⟨TT,4,none⟩=some (.slice (some ⟨gx,0,none⟩) s5.nN s5.cN):=by rw [← hAx];exact hTT.cell 4
        have b5:wr.cell? ⟨gx,i*8+5,none⟩=some (.int .i64 y5):=hxce 5 _ rfl
        have b6:wr.cell? ⟨gx,i*8+6,none⟩=some (.int .i64 y6):=hxce 6 _ rfl
        have b7:wr.cell? ⟨gx,i*8+7,none⟩=some (.int .i64 y7):=hxce 7 _ rfl
        clear hAx hxce hace hi hf hyi hp hq1 hq2 hq3 hq4 hq5 hvb
        go_upto_region 15 with (first|go_skip|go_guarded)
        refine Au (by kernel_rfl) (by kernel_rfl) ?_
        repeat (first|go_big_quiet_skip|(go_big_quiet_want;(first|((refine AY rfl ?_);(first|(refine Ae (p:=⟨TT,0,none⟩) (v:=.agg s5.arr) ?_ ?_ ?_;(focus rfl);(focus (intro W' hW;exact Ar rfl STStore (by go_simp) (hTT.e0 hW) rfl;done)))|(refine Ae (p:=⟨T,4,none⟩) (v:=.slice (some ⟨g,offa,none⟩) sV.nN sV.cN) ?_ ?_ ?_;(focus rfl);(focus (intro W' hW;have q:=hW.c0 m4;go_simp;done)))|(refine Ae (p:=⟨g,offa+k*8,none⟩) (v:=.int .i64 x0) ?_ ?_ ?_;(focus rfl);(focus (intro W' hW;have q:=hW.c0 a0;go_simp;done))));(try simp only [Act.put,zA,zB,zC,zD,zE,zF]))|((refine Bp rfl ?_);(first|(refine Am (f:=18) (args:=#[.agg s5.arr,.int .i64 x0]) (v:=.int .i64 (i:Int)) ?_ ?_ ?_;(focus (intro W' hW;go_simp;done));(focus (intro W' hW;refine (EQ s5.AN s5.nN s5.cN s5.nodes x0 W' (hsl.Ap hW) hkN9 _ _ _ _ _ _ _ _).mono ?_;intro e w' hcc;obtain ⟨he,hxu⟩:=hcc;refine ⟨?_,hxu⟩;rw [he,HI.out];done))));(try simp only [Act.put,zA,zB,zC,zD,zE,zF]))|go_big_quiet_op);go_big_quiet_on))
        refine wpQuiet_nil ?_
        intro w6 hx6
        have m4:=hx6.c0 m4
        have n4:=hx6.c0 n4
        have a5:=hx6.c0 a5
        have a6:=hx6.c0 a6
        have a7:=hx6.c0 a7
        have b5:=hx6.c0 b5
        have b6:=hx6.c0 b6
        have b7:=hx6.c0 b7
        clear a0
        go_upto_region 16 with (first|go_skip|go_guarded)
        refine Au (by kernel_rfl) (by kernel_rfl) ?_
        repeat (first|go_big_quiet_skip|(go_big_quiet_want;(first|((refine AY rfl ?_);(first|(refine Ae (p:=⟨TT,4,none⟩) (v:=.slice (some ⟨gx,0,none⟩) s5.nN s5.cN) ?_ ?_ ?_;(focus rfl);(focus (intro W' hW;have q:=hW.c0 n4;go_simp;done)))|(refine Ae (p:=⟨T,4,none⟩) (v:=.slice (some ⟨g,offa,none⟩) sV.nN sV.cN) ?_ ?_ ?_;(focus rfl);(focus (intro W' hW;have q:=hW.c0 m4;go_simp;done)))|(refine Ae (p:=⟨gx,i*8+5,none⟩) (v:=.int .i64 y5) ?_ ?_ ?_;(focus rfl);(focus (intro W' hW;have q:=hW.c0 b5;go_simp;done)))|(refine Ae (p:=⟨gx,i*8+6,none⟩) (v:=.int .i64 y6) ?_ ?_ ?_;(focus rfl);(focus (intro W' hW;have q:=hW.c0 b6;go_simp;done)))|(refine Ae (p:=⟨gx,i*8+7,none⟩) (v:=.int .i64 y7) ?_ ?_ ?_;(focus rfl);(focus (intro W' hW;have q:=hW.c0 b7;go_simp;done)))|(refine Ae (p:=⟨g,offa+k*8+5,none⟩) (v:=.int .i64 x5) ?_ ?_ ?_;(focus rfl);(focus (intro W' hW;have q:=hW.c0 a5;go_simp;done)))|(refine Ae (p:=⟨g,offa+k*8+6,none⟩) (v:=.int .i64 x6) ?_ ?_ ?_;(focus rfl);(focus (intro W' hW;have q:=hW.c0 a6;go_simp;done)))|(refine Ae (p:=⟨g,offa+k*8+7,none⟩) (v:=.int .i64 x7) ?_ ?_ ?_;(focus rfl);(focus (intro W' hW;have q:=hW.c0 a7;go_simp;done))));(try simp only [Act.put,zA,zB,zC,zD,zE,zF]);(try simp only [hid]);(try simp only [hwr]);(try simp only [v1]);(try simp only [v2]);(try simp only [v3]))|go_big_quiet_op);go_big_quiet_on))
        refine wpQuiet_nil ?_
        intro w7 hx7
        have m4:=hx7.c0 m4
        have n4:=hx7.c0 n4
        have a6:=hx7.c0 a6
        have a7:=hx7.c0 a7
        have b6:=hx7.c0 b6
        have b7:=hx7.c0 b7
        clear a5 b5 v1 v2 v3 hwr hid
        go_upto_region 18 with (first|go_skip|go_guarded)
        cases v4:(y6 == x6) with
        | false =>
         refine Au (by kernel_rfl) (by kernel_rfl) ?_
         repeat (first|go_big_quiet_skip|(go_big_quiet_want;(first|((refine AY rfl ?_);(first|(refine Ae (p:=⟨TT,4,none⟩) (v:=.slice (some ⟨gx,0,none⟩) s5.nN s5.cN) ?_ ?_ ?_;(focus rfl);(focus (intro W' hW;have q:=hW.c0 n4;go_simp;done)))|(refine Ae (p:=⟨T,4,none⟩) (v:=.slice (some ⟨g,offa,none⟩) sV.nN sV.cN) ?_ ?_ ?_;(focus rfl);(focus (intro W' hW;have q:=hW.c0 m4;go_simp;done)))|(refine Ae (p:=⟨gx,i*8+6,none⟩) (v:=.int .i64 y6) ?_ ?_ ?_;(focus rfl);(focus (intro W' hW;have q:=hW.c0 b6;go_simp;done)))|(refine Ae (p:=⟨gx,i*8+7,none⟩) (v:=.int .i64 y7) ?_ ?_ ?_;(focus rfl);(focus (intro W' hW;have q:=hW.c0 b7;go_simp;done)))|(refine Ae (p:=⟨g,offa+k*8+6,none⟩) (v:=.int .i64 x6) ?_ ?_ ?_;(focus rfl);(focus (intro W' hW;have q:=hW.c0 a6;go_simp;done)))|(refine Ae (p:=⟨g,offa+k*8+7,none⟩) (v:=.int .i64 x7) ?_ ?_ ?_;(focus rfl);(focus (intro W' hW;have q:=hW.c0 a7;go_simp;done))));(try simp only [Act.put,zA,zB,zC,zD,zE,zF]);(try simp only [v4]))|go_big_quiet_op);go_big_quiet_on))
         refine wpQuiet_nil ?_
         intro w8 hx8
         have hxn:=((hx.tr hx6).tr hx7).tr hx8
         go_wp2_with (first|go_skip|go_guarded)
         go_roundw
         case rel=>exact ⟨k+1,HTK.out,by go_num,hxn⟩
         case measure=>have:=HTK.out;simp [intOf];omega
        | true =>
         have v5:decide (y7 < x7)=false:=by have h9:=HQ5.out (by simpa using v4);simp;omega
         refine Au (by kernel_rfl) (by kernel_rfl) ?_
         repeat (first|go_big_quiet_skip|(go_big_quiet_want;(first|((refine AY rfl ?_);(first|(refine Ae (p:=⟨TT,4,none⟩) (v:=.slice (some ⟨gx,0,none⟩) s5.nN s5.cN) ?_ ?_ ?_;(focus rfl);(focus (intro W' hW;have q:=hW.c0 n4;go_simp;done)))|(refine Ae (p:=⟨T,4,none⟩) (v:=.slice (some ⟨g,offa,none⟩) sV.nN sV.cN) ?_ ?_ ?_;(focus rfl);(focus (intro W' hW;have q:=hW.c0 m4;go_simp;done)))|(refine Ae (p:=⟨gx,i*8+6,none⟩) (v:=.int .i64 y6) ?_ ?_ ?_;(focus rfl);(focus (intro W' hW;have q:=hW.c0 b6;go_simp;done)))|(refine Ae (p:=⟨gx,i*8+7,none⟩) (v:=.int .i64 y7) ?_ ?_ ?_;(focus rfl);(focus (intro W' hW;have q:=hW.c0 b7;go_simp;done)))|(refine Ae (p:=⟨g,offa+k*8+6,none⟩) (v:=.int .i64 x6) ?_ ?_ ?_;(focus rfl);(focus (intro W' hW;have q:=hW.c0 a6;go_simp;done)))|(refine Ae (p:=⟨g,offa+k*8+7,none⟩) (v:=.int .i64 x7) ?_ ?_ ?_;(focus rfl);(focus (intro W' hW;have q:=hW.c0 a7;go_simp;done))));(try simp only [Act.put,zA,zB,zC,zD,zE,zF]);(try simp only [v4]);(try simp only [v5]))|go_big_quiet_op);go_big_quiet_on))
         refine wpQuiet_nil ?_
         intro w8 hx8
         have hxn:=((hx.tr hx6).tr hx7).tr hx8
         go_wp2_with (first|go_skip|go_guarded)
         go_roundw
         case rel=>exact ⟨k+1,HTK.out,by go_num,hxn⟩
         case measure=>have:=HTK.out;simp [intOf];omega
      have hnl2:¬ ((k:Int) < sV.nN):=by omega
      have hx2:=hx
      clear hx
      go_wp2
      go_loopw [11] (fun ki wr=>∃ k:Nat,k≤s5.nA∧ki=.int .i64 k∧Ext Nothing w5 wr) (fun ki _=>s5.nA - (intOf ki).toNat)
      case atStart=>exact ⟨0,Nat.zero_le _,rfl,hx2⟩
      case round =>
       obtain ⟨k,hk,rfl,hx⟩:=hrel
       have m5:wr.cell? ⟨TT,5,none⟩=some (.slice s5.AA s5.nA s5.cA):=(hT5.e0 hx).cell 5
       by_cases hlt:k < s5.nA
       ·as_aux_lemma =>
         obtain ⟨hjn,g,offa,hAe,hace⟩:=hO5.slA.get hx hlt
         have hym:s5.allocs[k]? = some s5.allocs[k]:=List.getElem?_eq_getElem hjn
         generalize s5.allocs[k]=x at hace hym
         rw [hAe] at m5
         have HAE:=Lib.hid hAe
         have HYM:=Lib.hid hym
         have HTK:=Lib.hid hlt
         have hk0' : (0:Int)≤(k:Int):=by omega
         clear hAe hym hlt
         have hk1' : (k:Int) < s5.nA:=by have:=HTK.out;omega
         have hnw:=HWN.out.2 x (List.mem_of_getElem? HYM.out)
         have hTs9:=hTs.e0 hx
         have hsl:=(hOs.Aw hx).slA
         have hkA9:sV.nA≤67108864:=by omega
         have a0:wr.cell? ⟨g,offa+k*11,none⟩=some (.int .i64 x.id):=hace 0 _ rfl
         have t1:wr.cell? ⟨T,1,none⟩=some (.int .i64 sV.next):=hTs9.cell 1
         clear hace
         go_upto_region 23 with (first|go_skip|go_guarded)
         rcases AC (fun y:Ac=>y.id == x.id) sV.allocs with ⟨hi,hf,hno⟩|⟨i,y,hi,_,_,_,_⟩
         ·have hge:sV.next≤x.id:=hnw.elim (fun ⟨a,ha,ho⟩=>by have h8:=hno a ha;have h7:=(Fsm.DJ ho.core).2.2.2.2.2.2.1;simp at h8;omega) (fun h9=>h9)
          have v1:decide (x.id < sV.next)=false:=by simp;omega
          have HI:=Lib.hid hi
          clear hi hf hno hnw hge
          refine Au (by kernel_rfl) (by kernel_rfl) ?_
          repeat (first|go_big_quiet_skip|(go_big_quiet_want;(first|((refine AY rfl ?_);(first|(refine Ae (p:=⟨T,0,none⟩) (v:=.agg sV.arr) ?_ ?_ ?_;(focus rfl);(focus (intro W' hW;exact Ar rfl STStore (by go_simp) (hTs9.e0 hW) rfl;done)))|(refine Ae (p:=⟨TT,5,none⟩) (v:=.slice (some ⟨g,offa,none⟩) s5.nA s5.cA) ?_ ?_ ?_;(focus rfl);(focus (intro W' hW;have q:=hW.c0 m5;go_simp;done)))|(refine Ae (p:=⟨g,offa+k*11,none⟩) (v:=.int .i64 x.id) ?_ ?_ ?_;(focus rfl);(focus (intro W' hW;have q:=hW.c0 a0;go_simp;done)))|(refine Ae (p:=⟨T,1,none⟩) (v:=.int .i64 sV.next) ?_ ?_ ?_;(focus rfl);(focus (intro W' hW;have q:=hW.c0 t1;go_simp;done))));(try simp only [Act.put,zA,zB,zC,zD,zE,zF]);(try simp only [v1]))|((refine Bp rfl ?_);(first|(refine Am (f:=23) (args:=#[.agg sV.arr,.int .i64 x.id]) (v:=.int .i64 (-1)) ?_ ?_ ?_;(focus (intro W' hW;go_simp;done));(focus (intro W' hW;refine (JI sV.AA sV.nA sV.cA sV.allocs x.id W' (hsl.Ap hW) hkA9 _ _ _ _ _ _ _ _).mono ?_;intro e w' hcc;obtain ⟨he,hxu⟩:=hcc;refine ⟨?_,hxu⟩;rw [he,HI.out];done))));(try simp only [Act.put,zA,zB,zC,zD,zE,zF]);(try simp only [v1]))|go_big_quiet_op);go_big_quiet_on))
          refine wpQuiet_nil ?_
          intro w6 hx6
          have hxn:=hx.tr hx6
          go_wp2_with (first|go_skip|go_guarded)
          go_roundw
          case rel=>exact ⟨k+1,HTK.out,by go_num,hxn⟩
          case measure=>have:=HTK.out;simp [intOf];omega
         have HI:=Lib.hid hi
         have hid:decide ((i:Int) < 0)=false:=by simp
         clear hi hnw
         refine Au (by kernel_rfl) (by kernel_rfl) ?_
         repeat (first|go_big_quiet_skip|(go_big_quiet_want;(first|((refine AY rfl ?_);(first|(refine Ae (p:=⟨T,0,none⟩) (v:=.agg sV.arr) ?_ ?_ ?_;(focus rfl);(focus (intro W' hW;exact Ar rfl STStore (by go_simp) (hTs9.e0 hW) rfl;done)))|(refine Ae (p:=⟨TT,5,none⟩) (v:=.slice (some ⟨g,offa,none⟩) s5.nA s5.cA) ?_ ?_ ?_;(focus rfl);(focus (intro W' hW;have q:=hW.c0 m5;go_simp;done)))|(refine Ae (p:=⟨g,offa+k*11,none⟩) (v:=.int .i64 x.id) ?_ ?_ ?_;(focus rfl);(focus (intro W' hW;have q:=hW.c0 a0;go_simp;done)))|(refine Ae (p:=⟨T,1,none⟩) (v:=.int .i64 sV.next) ?_ ?_ ?_;(focus rfl);(focus (intro W' hW;have q:=hW.c0 t1;go_simp;done))));(try simp only [Act.put,zA,zB,zC,zD,zE,zF]);(try simp only [hid]))|((refine Bp rfl ?_);(first|(refine Am (f:=23) (args:=#[.agg sV.arr,.int .i64 x.id]) (v:=.int .i64 (i:Int)) ?_ ?_ ?_;(focus (intro W' hW;go_simp;done));(focus (intro W' hW;refine (JI sV.AA sV.nA sV.cA sV.allocs x.id W' (hsl.Ap hW) hkA9 _ _ _ _ _ _ _ _).mono ?_;intro e w' hcc;obtain ⟨he,hxu⟩:=hcc;refine ⟨?_,hxu⟩;rw [he,HI.out];done))));(try simp only [Act.put,zA,zB,zC,zD,zE,zF]);(try simp only [hid]))|go_big_quiet_op);go_big_quiet_on))
         refine wpQuiet_nil ?_
         intro w6 hx6
         have hxn:=hx.tr hx6
         go_wp2_with (first|go_skip|go_guarded)
         go_roundw
         case rel=>exact ⟨k+1,HTK.out,by go_num,hxn⟩
         case measure=>have:=HTK.out;simp [intOf];omega
       as_aux_lemma =>
        have hnl3:¬ ((k:Int) < s5.nA):=by omega
        have hT5r:=hT5.e0 hx
        have hTr:=hTs.e0 hx
        obtain ⟨w8,rfl⟩ : ∃ z:World,z=wr:=⟨_,rfl⟩
        go_upto_region 25 with (first|go_skip|go_guarded)
        go_cut [223] from 212 to 222 (fun e wx=>e=.bool false∧wx=w8)
        case first =>
         have n1:w8.cell? ⟨TT,1,none⟩=some (.int .i64 s5.next):=hT5r.cell 1
         have n0:w8.cell? ⟨TT,0,none⟩=some (.int .i64 ((t:Int)+1)):=by have h9:s5.index=((t+1:Nat):Int):=HG5.out.g.ix;have h8:w8.cell? ⟨TT,0,none⟩=some (.int .i64 s5.index):=hT5r.cell 0;rw [h8,h9];rfl
         have t1:w8.cell? ⟨T,1,none⟩=some (.int .i64 sV.next):=hTr.cell 1
         have hnb:decide (s5.next < sV.next)=false:=by have h9:sV.next≤s5.next:=HWN.out.1;simp;omega
         have hixb:((t:Int)+1 != (t:Int)+1)=false:=by simp
         clear hTs hOs hT5 hO5 hT5r hTr hx hxw5
         go_wp2_with (first|go_skip|go_guarded)
         go_meet
         exact ⟨rfl,rfl⟩
        case rest =>
         obtain ⟨rfl,rfl⟩:=hcut
         go_wp2_with (first|go_skip|go_guarded|((with_reducible refine isW ?_);refine Ad rfl 30 _ rfl STStore TT rfl s5.arr (show Blk _ _ 30 _ from hT5r) rfl ?_)|((with_reducible refine isW ?_);refine Ag rfl 30 _ _ rfl STStore T rfl s5.arr rfl (show Blk _ _ 30 _ from hTr) rfl rfl rfl ?_;intro w9 hT9 hx9))
         go_roundw
         case rel=>exact ⟨t+1,HT.out,by go_num,s5,(hO5.Aw hx).keep hx9 (Apart.one hTr (by decide)),HG5.out,hT9,(hxw5.tr hx).trans hx9 (fun q hq e=>by have h9:q < w.heap.size:=hq;have:q=T:=e;omega)⟩
         case measure=>have:=HT.out;simp [intOf];omega
  have hnl:¬ ((t:Int) < ln):=by omega
  go_wp2_with (first|go_skip|go_guarded|(go_at_call 17;(with_reducible refine (CJ _).mono ?_);rintro e w9 ⟨rfl,hx9⟩))
  go_ret
  exact ⟨rfl,hx.tr hx9⟩
end Go.Proofs.YtccekmeifanipaaGreat
