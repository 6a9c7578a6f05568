/- Parts of the proof: MDown -/
import Derived.Test.YtccekmeifanipaaGreatT16
import Derived.Test.YtccekmeifanipaaGreatT13
namespace Go.Proofs.YtccekmeifanipaaGreat
set_option linter.unusedVariables false
set_option linter.unusedSimpArgs false
set_option linter.unusedSectionVars false
open Go.RowKit
set_option maxRecDepth 20000 in
set_option maxHeartbeats 4000000 in
theorem Gx (base b:Nat) (s:Aa) (cm:Bool) (n:NodD) (w:World) (hM:Az base w b s cm) (hN:s.nodes.length≤1048576) :
  Calls Tryz.prog 71 #[.pointer (some ⟨b,0,none⟩),.agg #[.int .i64 n.id,.int .i64 n.cap.cpu,.int .i64 n.cap.mem,.bool n.up,.bool n.drain,.int .i64 n.boot,.int .i64 n.epoch,.int .i64 n.seq]] w fun e w'=>e=.returned (.tuple #[.int .i64 (Bo s.data n).1,.int .i64 (Bo s.data n).2])∧Ext Nothing w w':=by
 have hxW:Ext Nothing w (w.alloc (.cells #[.int .i64 n.id,.int .i64 n.cap.cpu,.int .i64 n.cap.mem,.bool n.up,.bool n.drain,.int .i64 n.boot,.int .i64 n.epoch,.int .i64 n.seq] 43)):=Ext.Ay
 have hCW:Blk (w.alloc (.cells #[.int .i64 n.id,.int .i64 n.cap.cpu,.int .i64 n.cap.mem,.bool n.up,.bool n.drain,.int .i64 n.boot,.int .i64 n.epoch,.int .i64 n.seq] 43)) w.heap.size 43 #[.int .i64 n.id,.int .i64 n.cap.cpu,.int .i64 n.cap.mem,.bool n.up,.bool n.drain,.int .i64 n.boot,.int .i64 n.epoch,.int .i64 n.seq]:=Blk.new w _ _
 have hMW:=hM.e0 hxW
 have hnl:=Lib.hid hM.own.nl
 have hnN:s.nN≤67108864:=by have:=hM.own.nl;omega
 rcases AV (fun x:NodD=>x.id == n.id) s.nodes with ⟨hi,hf,_⟩|⟨i,x,hi,hxi,hp,hf,_⟩
 ·have H:=Lib.hid (show Bo s.data n=(0,31) by unfold Bo;rw [show Fsm.nodeAt s.data n.id=none from hf])
  have HI:=Lib.hid hi
  clear hi hf
  go_enter Tryz.func71,Tryz.ntmps71
  go_upto_region 1 with (first|go_skip|go_guarded)
  generalize hC:w.heap.size=C at hCW ⊢
  have HC:=Lib.hid hC
  clear hC
  generalize (w.alloc (.cells #[.int .i64 n.id,.int .i64 n.cap.cpu,.int .i64 n.cap.mem,.bool n.up,.bool n.drain,.int .i64 n.boot,.int .i64 n.epoch,.int .i64 n.seq] 43))=W at hxW hCW hMW ⊢
  have hsl:=hMW.own.slN
  have ck:W.cell? ⟨C,0,none⟩=some (.int .i64 n.id):=hCW.cell 0
  have hd:Ext Nothing W W.drew:=(Ext.refl _ _).drew
  refine zS (S:=fun W'=>Ext Nothing W W') (by kernel_rfl) ?_
  generalize W.drew=Wd at hd ⊢
  refine zV 0 (.pointer (some ⟨b,0,none⟩)) rfl (by kernel_rfl) hd (fun _ _ _ h=>h) (fun W' hS'=>by go_simp) ?_
  refine zV 1 (.pointer (some ⟨b,0,none⟩)) rfl (by kernel_rfl) hd (fun _ _ _ h=>h) (fun W' hS'=>by go_simp) ?_
  refine zV 2 (.pointer (some ⟨b,0,none⟩)) rfl (by kernel_rfl) hd (fun _ _ _ h=>h) (fun W' hS'=>by go_simp) ?_
  refine zV 3 (.agg s.arr) rfl (by kernel_rfl) hd (fun _ _ _ h=>h) (fun W' hS'=>by exact run_load_struct (sz:=9) (b:=b) (off:=0) rfl Aj (by go_simp) (fun j u hu=>hS'.c0 (hMW.at j u hu)) rfl) ?_
  refine zV 4 (.pointer (some ⟨C,0,none⟩)) rfl (by kernel_rfl) hd (fun _ _ _ h=>h) (fun W' hS'=>by go_simp) ?_
  refine zV 5 (.int .i64 n.id) rfl (by kernel_rfl) hd (fun _ _ _ h=>h) (fun W' hS'=>by have q:=hS'.c0 ck;go_simp) ?_
  (try simp only [Act.put,zA,zB,zC,zD,zE,zF])
  refine zO 6 (by kernel_rfl) ?_
  refine Ai (f:=66) (args:=#[.agg s.arr,.int .i64 n.id]) rfl (by rfl) (by go_simp) ((Dq s.AN s.nN s.cN s.nodes n.id Wd (hsl.Al hd) hnN _ _ _ _ _ _ _ _ _ rfl).mono ?_)
  rintro e w1 ⟨rfl,hx1⟩
  (rw [HI.out])
  have hxc:=hd.tr hx1
  refine ⟨_,rfl,hxc,?_⟩
  (try simp only [Act.put,zA,zB,zC,zD,zE,zF])
  refine zV 7 (.int .i64 (-1)) rfl (by kernel_rfl) hxc (fun _ _ _ h=>h) (fun W' hS'=>by go_simp) ?_
  (try simp only [Act.put,zA,zB,zC,zD,zE,zF])
  refine wpAnyH_done (by kernel_rfl) ?_ _
  (try simp only [Act.put,zA,zB,zC,zD,zE,zF])
  clear hd hx1
  go_wp2
  go_ret2
  exact ⟨by rw [H.out];rfl,hxW.tr hxc⟩
 have hna:Fsm.nodeAt s.data n.id=some x:=hf
 obtain ⟨hi1,hi2⟩:=List.getElem?_eq_some_iff.1 hxi
 obtain ⟨_,g,off,hAe,hce⟩:=hM.own.slN.get (Ext.refl Nothing w) (k:=i) (by have:=hnl.out;omega)
 rw [hi2] at hce
 have hk0:(0:Int)≤(i:Int):=by omega
 have hk1:(i:Int) < s.nN:=by have:=hnl.out;omega
 have hng:¬ ((i:Int) < 0):=by omega
 have HI:=Lib.hid hi
 have HA:=Lib.hid hAe
 have HNA:=Lib.hid hna
 clear hi hf hi2 hAe hxi hp hna
 obtain ⟨x0,⟨x1,x2⟩,x3,x4,x5,x6,x7⟩:=x
 go_enter Tryz.func71,Tryz.ntmps71
 go_upto_region 1 with (first|go_skip|go_guarded)
 generalize hC:w.heap.size=C at hCW ⊢
 have HC:=Lib.hid hC
 clear hC
 generalize (w.alloc (.cells #[.int .i64 n.id,.int .i64 n.cap.cpu,.int .i64 n.cap.mem,.bool n.up,.bool n.drain,.int .i64 n.boot,.int .i64 n.epoch,.int .i64 n.seq] 43))=W at hxW hCW hMW ⊢
 have hsl:=hMW.own.slN
 have ck:W.cell? ⟨C,0,none⟩=some (.int .i64 n.id):=hCW.cell 0
 have hd:Ext Nothing W W.drew:=(Ext.refl _ _).drew
 refine zS (S:=fun W'=>Ext Nothing W W') (by kernel_rfl) ?_
 generalize W.drew=Wd at hd ⊢
 refine zV 0 (.pointer (some ⟨b,0,none⟩)) rfl (by kernel_rfl) hd (fun _ _ _ h=>h) (fun W' hS'=>by go_simp) ?_
 refine zV 1 (.pointer (some ⟨b,0,none⟩)) rfl (by kernel_rfl) hd (fun _ _ _ h=>h) (fun W' hS'=>by go_simp) ?_
 refine zV 2 (.pointer (some ⟨b,0,none⟩)) rfl (by kernel_rfl) hd (fun _ _ _ h=>h) (fun W' hS'=>by go_simp) ?_
 refine zV 3 (.agg s.arr) rfl (by kernel_rfl) hd (fun _ _ _ h=>h) (fun W' hS'=>by exact run_load_struct (sz:=9) (b:=b) (off:=0) rfl Aj (by go_simp) (fun j u hu=>hS'.c0 (hMW.at j u hu)) rfl) ?_
 refine zV 4 (.pointer (some ⟨C,0,none⟩)) rfl (by kernel_rfl) hd (fun _ _ _ h=>h) (fun W' hS'=>by go_simp) ?_
 refine zV 5 (.int .i64 n.id) rfl (by kernel_rfl) hd (fun _ _ _ h=>h) (fun W' hS'=>by have q:=hS'.c0 ck;go_simp) ?_
 (try simp only [Act.put,zA,zB,zC,zD,zE,zF])
 refine zO 6 (by kernel_rfl) ?_
 refine Ai (f:=66) (args:=#[.agg s.arr,.int .i64 n.id]) rfl (by rfl) (by go_simp) ((Dq s.AN s.nN s.cN s.nodes n.id Wd (hsl.Al hd) hnN _ _ _ _ _ _ _ _ _ rfl).mono ?_)
 rintro e w1 ⟨rfl,hx1⟩
 (rw [HI.out])
 have hxc:=hd.tr hx1
 refine ⟨_,rfl,hxc,?_⟩
 (try simp only [Act.put,zA,zB,zC,zD,zE,zF])
 refine zV 7 (.int .i64 (i:Int)) rfl (by kernel_rfl) hxc (fun _ _ _ h=>h) (fun W' hS'=>by go_simp) ?_
 (try simp only [Act.put,zA,zB,zC,zD,zE,zF])
 refine wpAnyH_done (by kernel_rfl) ?_ _
 (try simp only [Act.put,zA,zB,zC,zD,zE,zF])
 clear hd hx1
 have hM1:=hMW.e0 hxc
 have m4:w1.cell? ⟨b,4,none⟩=some (.slice (some ⟨g,off,none⟩) s.nN s.cN):=by rw [← HA.out];exact hM1.blk.cell 4
 have k3:w1.cell? ⟨g,off+i*8+3,none⟩=some (.bool x3):=(hxW.tr hxc).c0 (hce 3 _ rfl)
 have k6:w1.cell? ⟨g,off+i*8+6,none⟩=some (.int .i64 x6):=(hxW.tr hxc).c0 (hce 6 _ rfl)
 have n6:w1.cell? ⟨C,6,none⟩=some (.int .i64 n.epoch):=(hCW.e0 hxc).cell 6
 have hxz:=hxW.tr hxc
 go_upto_region 4 with (first|go_skip|go_guarded)
 cases x3 with
 | false =>
  have H:=Lib.hid (show Bo s.data n=(0,32) by unfold Bo;rw [HNA.out];rfl)
  go_quiet (fail)
  have hdq:=(Ext.refl Nothing w1).drewN nq
  generalize w1.drewN nq=w2 at hdq ⊢
  go_wp2
  go_ret2
  exact ⟨by rw [H.out];rfl,hxz.tr hdq⟩
 | true =>
  cases he:(x6 != n.epoch) with
  | true =>
   have H:=Lib.hid (show Bo s.data n=(0,32) by unfold Bo;rw [HNA.out];simp only [];rw [show (!(x6 == n.epoch))=true from he];rfl)
   go_quiet (fail)
   have hdq:=(Ext.refl Nothing w1).drewN nq
   generalize w1.drewN nq=w2 at hdq ⊢
   go_wp2
   go_ret2
   exact ⟨by rw [H.out];rfl,hxz.tr hdq⟩
  | false =>
   have H:=Lib.hid (show Bo s.data n=((i:Int),0) by unfold Bo;rw [HNA.out];simp only [];rw [show (!(x6 == n.epoch))=false from he];exact congrArg (fun z=>(z,(0:Int))) HI.out)
   go_quiet (fail)
   have hdq:=(Ext.refl Nothing w1).drewN nq
   generalize w1.drewN nq=w2 at hdq ⊢
   go_wp2
   go_ret2
   exact ⟨by rw [H.out];rfl,hxz.tr hdq⟩
set_option maxRecDepth 20000 in
set_option maxHeartbeats 8000000 in
theorem Q6 (base b:Nat) (s:Aa) (cm:Bool) (c:Bl) (w:World) (hM:Az base w b s cm) (hb:base≤w.heap.size) (hJ:s.jobs.length≤1048576) (hN:s.nodes.length≤1048576) (hA:s.allocs.length≤1048576) (hE:s.evals.length≤16777216) (hw:Fsm.Wf s.data) :
  Calls Tryz.prog 54 #[.pointer (some ⟨b,0,none⟩),.agg c.arr] w fun e w'=>∃ s' r,e=.returned (.agg (Au r.code r.value))∧Az base w' b s' cm∧Fsm.down s.data c.d=(s'.data,r)∧r.allocs=[]∧Step w w' b s s':=by
 have hnl:=Lib.hid hM.own.nl
 rcases AV (fun x:NodD=>x.id == c.node.id) s.nodes with ⟨hi,hf,_⟩|⟨i,x,hi,hxi,hp,hf,hfirst⟩
 ·have hkn:Bo s.data c.node=(0,31):=by unfold Bo;rw [show Fsm.nodeAt s.data c.node.id=none from hf]
  have HF:=Lib.hid (show Fsm.down s.data c.d=(s.data,⟨31,0,[]⟩) by unfold Fsm.down;rw [show Fsm.nodeAt s.data c.d.node.id=none from hf];rfl)
  clear hi hf
  have HK1:=Lib.hid (show (Bo s.data c.node).1=0 by rw [hkn])
  have HK2:=Lib.hid (show (Bo s.data c.node).2=31 by rw [hkn])
  clear hkn
  obtain ⟨hxW,hCW,hRW⟩:=cmd0 w c
  have hzW:=hxW.size
  have hMW:=hM.e0 hxW
  go_enter Tryz.func54,Tryz.ntmps54
  go_upto_region 1 with (first|go_skip|go_guarded)
  generalize hC:w.heap.size=C at hCW hRW hzW ⊢
  have HC:=Lib.hid hC
  clear hC
  generalize ((w.alloc (.cells c.arr 51)).alloc (.cells #[.int .i64 0,.int .i64 0,.slice none 0 0] 34))=W at hxW hCW hRW hzW hMW ⊢
  have hcn:∀ j u,c.EN.toList[j]? = some u→W.cell? ⟨C,10+j,none⟩=some u:=fun j u hu=>by rw [hCW.cell];exact c.Ha j u hu
  go_upto_region 3 with (first|go_skip|((with_reducible refine isW ?_);refine Ad rfl 43 _ rfl Bz C 10 rfl c.EN hcn rfl ?_)|(go_at_call 71;(with_reducible refine (Gx base b s cm c.node W hMW hN).mono ?_);rintro e w1 ⟨rfl,hx1⟩;(rw [HK1.out,HK2.out])))
  have hM1:=hMW.e0 hx1
  have hR1:=hRW.e0 hx1
  have hst:=Step.of0 (b:=b) (s:=s) (hxW.tr hx1)
  go_wp2_with (first|go_skip|go_guarded|(go_at_call 31;(with_reducible refine (mNo 31 w1).mono ?_);rintro e w8 ⟨rfl,hx8⟩;have hR8:=hR1.e0 hx8)|((with_reducible refine isW ?_);refine Af rfl 34 _ _ rfl STResult (C+1) rfl (Au 31 0) rfl hR8 rfl rfl rfl ?_;intro w9 hR9 hx9))
  have hb9:=(hM1.e0 hx8).blk.lt
  exact bodyPost_ret (results_cell rfl STResult (g:=C+1) rfl hR9 rfl) rfl ⟨s,⟨31,0,[]⟩,rfl,(hM1.e0 hx8).keep hx9 (fun e=>Blk.ne (hM1.e0 hx8).blk hR8 (by decide) e) (Apart.one hR8 (by decide)),HF.out,rfl,(hst.m0 hx8).fresh hx9 (fun q e=>by have:=HC.out;have:q=C+1:=e;omega)⟩
 have hna:Fsm.nodeAt s.data c.node.id=some x:=hf
 have hna' : Fsm.nodeAt s.data c.d.node.id=some x:=hf
 have HX:=Lib.hid hxi
 have HI:=Lib.hid hi
 have HFI:=Lib.hid hfirst
 have HP:=Lib.hid hp
 have hk0:(0:Int)≤(i:Int):=by omega
 have hk1:(i:Int) < s.nN:=by have:=hnl.out;have:=(List.getElem?_eq_some_iff.1 hxi).1;omega
 clear hf hi hxi hfirst hp
 obtain ⟨x0,⟨x1,x2⟩,x3,x4,x5,x6,x7⟩:=x
 cases hu:(!x3 || !(x6 == c.node.epoch)) with
 | true =>
  have hkn:Bo s.data c.node=(0,32):=by unfold Bo;rw [hna];simp only [];rw [hu];rfl
  have HF:=Lib.hid (show Fsm.down s.data c.d=(s.data,⟨32,0,[]⟩) by unfold Fsm.down;rw [hna'];simp only [];rw [if_pos (show (!x3 || !(x6 == c.d.node.epoch))=true from hu)];rfl)
  clear hna hna' hu
  have HK1:=Lib.hid (show (Bo s.data c.node).1=0 by rw [hkn])
  have HK2:=Lib.hid (show (Bo s.data c.node).2=32 by rw [hkn])
  clear hkn
  obtain ⟨hxW,hCW,hRW⟩:=cmd0 w c
  have hzW:=hxW.size
  have hMW:=hM.e0 hxW
  go_enter Tryz.func54,Tryz.ntmps54
  go_upto_region 1 with (first|go_skip|go_guarded)
  generalize hC:w.heap.size=C at hCW hRW hzW ⊢
  have HC:=Lib.hid hC
  clear hC
  generalize ((w.alloc (.cells c.arr 51)).alloc (.cells #[.int .i64 0,.int .i64 0,.slice none 0 0] 34))=W at hxW hCW hRW hzW hMW ⊢
  have hcn:∀ j u,c.EN.toList[j]? = some u→W.cell? ⟨C,10+j,none⟩=some u:=fun j u hu=>by rw [hCW.cell];exact c.Ha j u hu
  go_upto_region 3 with (first|go_skip|((with_reducible refine isW ?_);refine Ad rfl 43 _ rfl Bz C 10 rfl c.EN hcn rfl ?_)|(go_at_call 71;(with_reducible refine (Gx base b s cm c.node W hMW hN).mono ?_);rintro e w1 ⟨rfl,hx1⟩;(rw [HK1.out,HK2.out])))
  have hM1:=hMW.e0 hx1
  have hR1:=hRW.e0 hx1
  have hst:=Step.of0 (b:=b) (s:=s) (hxW.tr hx1)
  go_wp2_with (first|go_skip|go_guarded|(go_at_call 31;(with_reducible refine (mNo 32 w1).mono ?_);rintro e w8 ⟨rfl,hx8⟩;have hR8:=hR1.e0 hx8)|((with_reducible refine isW ?_);refine Af rfl 34 _ _ rfl STResult (C+1) rfl (Au 32 0) rfl hR8 rfl rfl rfl ?_;intro w9 hR9 hx9))
  have hb9:=(hM1.e0 hx8).blk.lt
  exact bodyPost_ret (results_cell rfl STResult (g:=C+1) rfl hR9 rfl) rfl ⟨s,⟨32,0,[]⟩,rfl,(hM1.e0 hx8).keep hx9 (fun e=>Blk.ne (hM1.e0 hx8).blk hR8 (by decide) e) (Apart.one hR8 (by decide)),HF.out,rfl,(hst.m0 hx8).fresh hx9 (fun q e=>by have:=HC.out;have:q=C+1:=e;omega)⟩
 | false =>
  have hkn:Bo s.data c.node=((i:Int),0):=by unfold Bo;rw [hna];simp only [];rw [hu];exact congrArg (fun z=>(z,(0:Int))) HI.out
  have HU:=Lib.hid hu
  have HNA:=Lib.hid hna'
  clear hna hna' hu
  have HK1:=Lib.hid (show (Bo s.data c.node).1=(i:Int) by rw [hkn])
  have HK2:=Lib.hid (show (Bo s.data c.node).2=0 by rw [hkn])
  clear hkn
  obtain ⟨hxW,hCW,hRW⟩:=cmd0 w c
  have hzW:=hxW.size
  have hMW:=hM.e0 hxW
  go_enter Tryz.func54,Tryz.ntmps54
  go_upto_region 1 with (first|go_skip|go_guarded)
  generalize hC:w.heap.size=C at hCW hRW hzW ⊢
  have HC:=Lib.hid hC
  clear hC
  generalize ((w.alloc (.cells c.arr 51)).alloc (.cells #[.int .i64 0,.int .i64 0,.slice none 0 0] 34))=W at hxW hCW hRW hzW hMW ⊢
  have hcn:∀ j u,c.EN.toList[j]? = some u→W.cell? ⟨C,10+j,none⟩=some u:=fun j u hu=>by rw [hCW.cell];exact c.Ha j u hu
  go_upto_region 4 with (first|go_skip|((with_reducible refine isW ?_);refine Ad rfl 43 _ rfl Bz C 10 rfl c.EN hcn rfl ?_)|(go_at_call 71;(with_reducible refine (Gx base b s cm c.node W hMW hN).mono ?_);rintro e w1 ⟨rfl,hx1⟩;(rw [HK1.out,HK2.out])))
  have hM1:=hMW.e0 hx1
  have hR1:=hRW.e0 hx1
  have hC1:=hCW.e0 hx1
  have hst:=Step.of0 (b:=b) (s:=s) (hxW.tr hx1)
  obtain ⟨g,cur,hAe,hob,hgb,_,hce,_⟩:=hM1.own.IY HX.out
  change s.AN=_ at hAe
  have m4:w1.cell? ⟨b,4,none⟩=some (.slice (some ⟨g,0,none⟩) s.nN s.cN):=by rw [← hAe];exact hM1.blk.cell 4
  have k7:w1.cell? ⟨g,i*8+7,none⟩=some (.int .i64 x7):=hce 7 _ rfl
  have k3:w1.cell? ⟨g,i*8+3,none⟩=some (.bool x3):=hce 3 _ rfl
  have c17:w1.cell? ⟨C,17,none⟩=some (.int .i64 c.node.seq):=hC1.cell 17
  have HA:=Lib.hid hAe
  clear hAe hce
  go_quiet (fail)
  have hdq:=(Ext.refl Nothing w1).drewN nq
  generalize w1.drewN nq=wq at hdq ⊢
  have hMq:=hM1.e0 hdq
  have hRq:=hR1.e0 hdq
  have hCq:=hC1.e0 hdq
  have hstq:=hst.m0 hdq
  have m4:=hdq.c0 m4
  have k3:=hdq.c0 k3
  have hgq:=hgb.e0 hdq
  clear c17 k7
  cases hs7:(x7 != c.node.seq) with
  | true =>
   have HF:=Lib.hid (show Fsm.down s.data c.d=(s.data,⟨33,0,[]⟩) by unfold Fsm.down;rw [HNA.out];simp only [];rw [if_neg (show ¬ (!x3 || !(x6 == c.d.node.epoch))=true from by rw [show (!x3 || !(x6 == c.d.node.epoch))=false from HU.out];exact Bool.false_ne_true),if_pos (show (!(x7 == c.d.node.seq))=true from hs7)];rfl)
   go_upto_region 5 with (first|go_skip)
   go_wp2_with (first|go_skip|go_guarded|(go_at_call 31;(with_reducible refine (mNo 33 wq).mono ?_);rintro e w8 ⟨rfl,hx8⟩;have hR8:=hRq.e0 hx8)|((with_reducible refine isW ?_);refine Af rfl 34 _ _ rfl STResult (C+1) rfl (Au 33 0) rfl hR8 rfl rfl rfl ?_;intro w9 hR9 hx9))
   have hb9:=(hMq.e0 hx8).blk.lt
   exact bodyPost_ret (results_cell rfl STResult (g:=C+1) rfl hR9 rfl) rfl ⟨s,⟨33,0,[]⟩,rfl,(hMq.e0 hx8).keep hx9 (fun e=>Blk.ne (hMq.e0 hx8).blk hR8 (by decide) e) (Apart.one hR8 (by decide)),HF.out,rfl,(hstq.m0 hx8).fresh hx9 (fun q e=>by have:=HC.out;have:q=C+1:=e;omega)⟩
  | false =>
   have hTN:=Lib.hid (show Fsm.Ap (fun n=>n.id == c.d.node.id) (fun n=>{ n with up:=false,epoch:=wrap64 (n.epoch+1) }) s.data.nodes=s.nodes.set i ⟨x0,⟨x1,x2⟩,false,x4,x5,wrap64 (x6+1),x7⟩ from Fsm.BF (f:=fun n:NodD=>{ n with up:=false,epoch:=wrap64 (n.epoch+1) }) HX.out HP.out HFI.out)
   have HF:=Lib.hid (show Fsm.down s.data c.d=(Fsm.system (Fsm.lost ({ s with nodes:=s.nodes.set i ⟨x0,⟨x1,x2⟩,false,x4,x5,wrap64 (x6+1),x7⟩ }:Aa).data c.node.id),⟨0,0,[]⟩) by unfold Fsm.down;rw [HNA.out];simp only [];rw [if_neg (show ¬ (!x3 || !(x6 == c.d.node.epoch))=true from by rw [show (!x3 || !(x6 == c.d.node.epoch))=false from HU.out];exact Bool.false_ne_true),if_neg (show ¬ (!(x7 == c.d.node.seq))=true from by rw [show (!(x7 == c.d.node.seq))=false from hs7];exact Bool.false_ne_true)];rw [hTN.out];rfl)
   have hW7:Fsm.Wf ({ s with nodes:=s.nodes.set i ⟨x0,⟨x1,x2⟩,false,x4,x5,wrap64 (x6+1),x7⟩ }:Aa).data:=by have h9:=Fsm.Ep hw (fun n=>n.id == c.d.node.id) (fun n=>{ n with up:=false,epoch:=wrap64 (n.epoch+1) }) (fun _=>rfl);rw [hTN.out] at h9;exact h9
   obtain ⟨g',cur',hAe',_,hgb',_,hce',hput'⟩:=hMq.own.IY HX.out
   have hgg:g=g':=by have h7:s.AN=some ⟨g',0,none⟩:=hAe';rw [HA.out] at h7;injection h7 with h7;injection h7
   subst hgg
   have hO6:Aw base (wq.setCell ⟨g,i*8+3,none⟩ (.bool false)) ({ s with nodes:=s.nodes.set i ⟨x0,⟨x1,x2⟩,false,x4,x5,x6,x7⟩ }:Aa):=hput' 3 (.bool false) ⟨x0,⟨x1,x2⟩,false,x4,x5,x6,x7⟩ (by decide) rfl
   have hi6:(s.nodes.set i ⟨x0,⟨x1,x2⟩,false,x4,x5,x6,x7⟩)[i]? = some ⟨x0,⟨x1,x2⟩,false,x4,x5,x6,x7⟩:=by rw [List.getElem?_set];simp;exact (List.getElem?_eq_some_iff.1 HX.out).1
   obtain ⟨g6,cur6,hAe6,_,hgb6,_,hce6,hput6⟩:=hO6.IY hi6
   have hgg:g=g6:=by have h7:s.AN=some ⟨g6,0,none⟩:=hAe6;rw [HA.out] at h7;injection h7 with h7;injection h7
   subst hgg
   have hO7:Aw base ((wq.setCell ⟨g,i*8+3,none⟩ (.bool false)).setCell ⟨g,i*8+6,none⟩ (.int .i64 (wrap64 (x6+1)))) ({ s with nodes:=(s.nodes.set i ⟨x0,⟨x1,x2⟩,false,x4,x5,x6,x7⟩).set i ⟨x0,⟨x1,x2⟩,false,x4,x5,wrap64 (x6+1),x7⟩ }:Aa):=hput6 6 (.int .i64 (wrap64 (x6+1))) ⟨x0,⟨x1,x2⟩,false,x4,x5,wrap64 (x6+1),x7⟩ (by decide) rfl
   rw [List.set_set] at hO7
   have hs6:Ext (fun q=>q=g) wq (wq.setCell ⟨g,i*8+3,none⟩ (.bool false)):=Ext.set1 _ _ _ _
   have hs7' : Ext (fun q=>q=g) (wq.setCell ⟨g,i*8+3,none⟩ (.bool false)) ((wq.setCell ⟨g,i*8+3,none⟩ (.bool false)).setCell ⟨g,i*8+6,none⟩ (.int .i64 (wrap64 (x6+1)))):=Ext.set1 _ _ _ _
   have hs67:=hs6.tr hs7'
   have hbg:¬ (b=g):=fun e=>Blk.ne hMq.blk hgq (by decide) e
   have f3:wq.frozen? ⟨g,i*8+3,none⟩=false:=hgq.frozen _
   have m46:(wq.setCell ⟨g,i*8+3,none⟩ (.bool false)).cell? ⟨b,4,none⟩=some (.slice (some ⟨g,0,none⟩) s.nN s.cN):=hs6.cell m4 hbg
   have k66:(wq.setCell ⟨g,i*8+3,none⟩ (.bool false)).cell? ⟨g,i*8+6,none⟩=some (.int .i64 x6):=hce6 6 _ rfl
   have f66:(wq.setCell ⟨g,i*8+3,none⟩ (.bool false)).frozen? ⟨g,i*8+6,none⟩=false:=hgb6.frozen _
   go_upto_region 8 with (first|go_skip)
   have hM7:Az base ((wq.setCell ⟨g,i*8+3,none⟩ (.bool false)).setCell ⟨g,i*8+6,none⟩ (.int .i64 (wrap64 (x6+1)))) b ({ s with nodes:=s.nodes.set i ⟨x0,⟨x1,x2⟩,false,x4,x5,wrap64 (x6+1),x7⟩ }:Aa) cm:=⟨hMq.blk.ext hs67 hbg,hO7,hMq.lo⟩
   have hst7:Step w ((wq.setCell ⟨g,i*8+3,none⟩ (.bool false)).setCell ⟨g,i*8+6,none⟩ (.int .i64 (wrap64 (x6+1)))) b s ({ s with nodes:=s.nodes.set i ⟨x0,⟨x1,x2⟩,false,x4,x5,wrap64 (x6+1),x7⟩ }:Aa):=(hstq.cell (s2:=({ s with nodes:=s.nodes.set i ⟨x0,⟨x1,x2⟩,false,x4,x5,x6,x7⟩ }:Aa)) (MW.oN (s:=s) hob) (fun q hq=>hq) _).cell (s2:=({ s with nodes:=s.nodes.set i ⟨x0,⟨x1,x2⟩,false,x4,x5,wrap64 (x6+1),x7⟩ }:Aa)) (MW.oN (s:=({ s with nodes:=s.nodes.set i ⟨x0,⟨x1,x2⟩,false,x4,x5,x6,x7⟩ }:Aa)) hob) (fun q hq=>hq) _
   have hC7:=hCq.ext hs67 (fun e=>Blk.ne hCq hgq (by decide) e)
   have hR7:=hRq.ext hs67 (fun e=>Blk.ne hRq hgq (by decide) e)
   clear hAe' hAe6 hput' hput6 hce' hce6 m4 k3 f3 m46 k66 f66 hs6 hs7' hs67 hO6 hO7
   generalize ((wq.setCell ⟨g,i*8+3,none⟩ (.bool false)).setCell ⟨g,i*8+6,none⟩ (.int .i64 (wrap64 (x6+1))))=w7 at hM7 hst7 hC7 hR7 ⊢
   have c10:w7.cell? ⟨C,10,none⟩=some (.int .i64 c.node.id):=hC7.cell 10
   have hq4:base≤w7.heap.size:=by have:=hst7.size;omega
   have hq1:({ s with nodes:=s.nodes.set i ⟨x0,⟨x1,x2⟩,false,x4,x5,wrap64 (x6+1),x7⟩ }:Aa).jobs.length≤1048576:=hJ
   have hqa:({ s with nodes:=s.nodes.set i ⟨x0,⟨x1,x2⟩,false,x4,x5,wrap64 (x6+1),x7⟩ }:Aa).allocs.length≤1048576:=hA
   have hq2:({ s with nodes:=s.nodes.set i ⟨x0,⟨x1,x2⟩,false,x4,x5,wrap64 (x6+1),x7⟩ }:Aa).evals.length≤33554432:=by show s.evals.length≤_;omega
   have hnR:¬ MW ({ s with nodes:=s.nodes.set i ⟨x0,⟨x1,x2⟩,false,x4,x5,wrap64 (x6+1),x7⟩ }:Aa) b (C+1):=hM7.Cn hR7 (by decide)
   go_upto_region 9 with (first|go_skip|(go_at_call 69;(with_reducible refine (O6 base b ({ s with nodes:=s.nodes.set i ⟨x0,⟨x1,x2⟩,false,x4,x5,wrap64 (x6+1),x7⟩ }:Aa) cm c.node.id w7 hM7 hq4 hq1 hqa hq2 hW7).mono ?_);rintro e wl ⟨aL,AL,nL,cL,lL,rfl,hML,hDL,haL,hlL,hxL⟩))
   replace hML:Az base wl b ({ ({ s with nodes:=s.nodes.set i ⟨x0,⟨x1,x2⟩,false,x4,x5,wrap64 (x6+1),x7⟩ }:Aa) with allocs:=aL,AE:=AL,nE:=nL,cE:=cL,evals:=lL }:Aa) cm:=hML
   have hRl:=hR7.step hxL hnR
   have hWL:Fsm.Wf ({ ({ s with nodes:=s.nodes.set i ⟨x0,⟨x1,x2⟩,false,x4,x5,wrap64 (x6+1),x7⟩ }:Aa) with allocs:=aL,AE:=AL,nE:=nL,cE:=cL,evals:=lL }:Aa).data:=by have h9:=Fsm.F4 hW7 c.node.id;rw [← hDL] at h9;exact h9
   have hstl:Step w wl b s ({ ({ s with nodes:=s.nodes.set i ⟨x0,⟨x1,x2⟩,false,x4,x5,wrap64 (x6+1),x7⟩ }:Aa) with allocs:=aL,AE:=AL,nE:=nL,cE:=cL,evals:=lL }:Aa):=hst7.trans hxL
   have hql4:base≤wl.heap.size:=by have:=hstl.size;omega
   have hql1:({ ({ s with nodes:=s.nodes.set i ⟨x0,⟨x1,x2⟩,false,x4,x5,wrap64 (x6+1),x7⟩ }:Aa) with allocs:=aL,AE:=AL,nE:=nL,cE:=cL,evals:=lL }:Aa).jobs.length≤1048576:=hJ
   have hlL2:lL.length≤s.evals.length+s.allocs.length:=hlL
   have hql2:({ ({ s with nodes:=s.nodes.set i ⟨x0,⟨x1,x2⟩,false,x4,x5,wrap64 (x6+1),x7⟩ }:Aa) with allocs:=aL,AE:=AL,nE:=nL,cE:=cL,evals:=lL }:Aa).evals.length≤33554432:=by show lL.length≤_;omega
   have hnRl:¬ MW ({ ({ s with nodes:=s.nodes.set i ⟨x0,⟨x1,x2⟩,false,x4,x5,wrap64 (x6+1),x7⟩ }:Aa) with allocs:=aL,AE:=AL,nE:=nL,cE:=cL,evals:=lL }:Aa) b (C+1):=hML.Cn hRl (by decide)
   go_wp2_with (first|go_skip|go_guarded|(go_at_call 70;(with_reducible refine (Hu base b ({ ({ s with nodes:=s.nodes.set i ⟨x0,⟨x1,x2⟩,false,x4,x5,wrap64 (x6+1),x7⟩ }:Aa) with allocs:=aL,AE:=AL,nE:=nL,cE:=cL,evals:=lL }:Aa) cm wl hML hql4 hql1 hql2 hWL).mono ?_);rintro e w8 ⟨A7,c7,l7,rfl,hM9,hD7,hl7,hx7⟩;have hR7b:=hRl.step hx7 hnRl)|((with_reducible refine isW ?_);refine Af rfl 34 _ _ rfl STResult (C+1) rfl (Au 0 0) rfl hR7b rfl rfl rfl ?_;intro w9 hR9 hx9))
   exact bodyPost_ret (results_cell rfl STResult (g:=C+1) rfl hR9 rfl) rfl ⟨_,⟨0,0,[]⟩,rfl,hM9.keep hx9 (fun e=>Blk.ne hM9.blk hR7b (by decide) e) (Apart.one hR7b (by decide)),by rw [HF.out,hD7];exact congrArg (fun z=>(Fsm.system z,(⟨0,0,[]⟩ : AQ))) hDL.symm,rfl,(hstl.trans hx7).fresh hx9 (fun q e=>by have:=HC.out;have:q=C+1:=e;omega)⟩
end Go.Proofs.YtccekmeifanipaaGreat
