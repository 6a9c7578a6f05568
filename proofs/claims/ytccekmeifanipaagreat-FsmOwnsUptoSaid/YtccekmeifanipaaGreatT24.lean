/- Parts of the proof: MDrain -/
import Derived.Test.YtccekmeifanipaaGreatT16
import Derived.Test.YtccekmeifanipaaGreatT13
namespace Go.Proofs.YtccekmeifanipaaGreat
set_option linter.unusedVariables false
set_option linter.unusedSimpArgs false
set_option linter.unusedSectionVars false
open Go.RowKit
set_option maxRecDepth 20000 in
set_option maxHeartbeats 8000000 in
theorem QH (base b:Nat) (s:Aa) (c:Bl) (w:World) (hM:Az base w b s false) (hb:base≤w.heap.size) (hJ:s.jobs.length≤1048576) (hN:s.nodes.length≤1048576) (hA:s.allocs.length≤1048576) (hE:s.evals.length≤16777216) (hw:Fsm.Wf s.data) :
  Calls Tryz.prog 55 #[.pointer (some ⟨b,0,none⟩),.agg c.arr] w fun e w'=>∃ s' cm' r,e=.returned (.agg (Au r.code r.value))∧Az base w' b s' cm'∧Fsm.drain s.data c.d=((if cm' then Fsm.came s'.data else s'.data),r)∧r.allocs=[]∧Step w w' b s s':=by
 have hnl:=Lib.hid hM.own.nl
 have hnN:s.nN≤67108864:=by have:=hM.own.nl;omega
 have hal:=Lib.hid hM.own.al
 have hnA:s.nA≤1048576:=by have:=hM.own.al;omega
 rcases AV (fun x:NodD=>x.id == c.node.id) s.nodes with ⟨hi,hf,_⟩|⟨i,x,hi,hxi,hp,hf,hfirst⟩
 ·have HF:=Lib.hid (show Fsm.drain s.data c.d=(s.data,⟨31,0,[]⟩) by unfold Fsm.drain;rw [show Fsm.nodeAt s.data c.d.node.id=none from hf];rfl)
  have HI:=Lib.hid hi
  clear hi hf
  obtain ⟨hxW,hCW,hRW⟩:=cmd0 w c
  have hzW:=hxW.size
  have hMW:=hM.e0 hxW
  go_enter Tryz.func55,Tryz.ntmps55
  go_upto_region 1 with (first|go_skip|go_guarded)
  generalize hC:w.heap.size=C at hCW hRW hzW ⊢
  have HC:=Lib.hid hC
  clear hC
  generalize ((w.alloc (.cells c.arr 51)).alloc (.cells #[.int .i64 0,.int .i64 0,.slice none 0 0] 34))=W at hxW hCW hRW hzW hMW ⊢
  have hsl:=hMW.own.slN
  have ck:W.cell? ⟨C,10,none⟩=some (.int .i64 c.node.id):=hCW.cell 10
  have hd:Ext Nothing W W.drew:=(Ext.refl _ _).drew
  refine zS (S:=fun W'=>Ext Nothing W W') (by kernel_rfl) ?_
  generalize W.drew=Wd at hd ⊢
  refine zV 0 (.pointer (some ⟨b,0,none⟩)) rfl (by kernel_rfl) hd (fun _ _ _ h=>h) (fun W' hS'=>by go_simp) ?_
  refine zV 1 (.pointer (some ⟨b,0,none⟩)) rfl (by kernel_rfl) hd (fun _ _ _ h=>h) (fun W' hS'=>by go_simp) ?_
  refine zV 2 (.pointer (some ⟨b,0,none⟩)) rfl (by kernel_rfl) hd (fun _ _ _ h=>h) (fun W' hS'=>by go_simp) ?_
  refine zV 3 (.agg s.arr) rfl (by kernel_rfl) hd (fun _ _ _ h=>h) (fun W' hS'=>by exact run_load_struct (sz:=9) (b:=b) (off:=0) rfl Aj (by go_simp) (fun j u hu=>hS'.c0 (hMW.at j u hu)) rfl) ?_
  refine zV 4 (.pointer (some ⟨C,10,none⟩)) rfl (by kernel_rfl) hd (fun _ _ _ h=>h) (fun W' hS'=>by go_simp) ?_
  refine zV 5 (.pointer (some ⟨C,10,none⟩)) rfl (by kernel_rfl) hd (fun _ _ _ h=>h) (fun W' hS'=>by go_simp) ?_
  refine zV 6 (.int .i64 c.node.id) rfl (by kernel_rfl) hd (fun _ _ _ h=>h) (fun W' hS'=>by have q:=hS'.c0 ck;go_simp) ?_
  (try simp only [Act.put,zA,zB,zC,zD,zE,zF])
  refine zO 7 (by kernel_rfl) ?_
  refine Ai (f:=66) (args:=#[.agg s.arr,.int .i64 c.node.id]) rfl (by rfl) (by go_simp) ((Dq s.AN s.nN s.cN s.nodes c.node.id Wd (hsl.Al hd) hnN _ _ _ _ _ _ _ _ _ rfl).mono ?_)
  rintro e w1 ⟨rfl,hx1⟩
  (rw [HI.out])
  have hxc:=hd.tr hx1
  refine ⟨_,rfl,hxc,?_⟩
  (try simp only [Act.put,zA,zB,zC,zD,zE,zF])
  refine zV 8 (.int .i64 (-1)) rfl (by kernel_rfl) hxc (fun _ _ _ h=>h) (fun W' hS'=>by go_simp) ?_
  (try simp only [Act.put,zA,zB,zC,zD,zE,zF])
  refine wpAnyH_done (by kernel_rfl) ?_ _
  (try simp only [Act.put,zA,zB,zC,zD,zE,zF])
  clear hd hx1
  have hM1:=hMW.e0 hxc
  have hR1:=hRW.e0 hxc
  have hst:=Step.of0 (b:=b) (s:=s) (hxW.tr hxc)
  go_wp2_with (first|go_skip|go_guarded|(go_at_call 31;(with_reducible refine (mNo 31 w1).mono ?_);rintro e w8 ⟨rfl,hx8⟩;have hR8:=hR1.e0 hx8)|((with_reducible refine isW ?_);refine Af rfl 34 _ _ rfl STResult (C+1) rfl (Au 31 0) rfl hR8 rfl rfl rfl ?_;intro w9 hR9 hx9))
  have hb9:=(hM1.e0 hx8).blk.lt
  exact bodyPost_ret (results_cell rfl STResult (g:=C+1) rfl hR9 rfl) rfl ⟨s,false,⟨31,0,[]⟩,rfl,(hM1.e0 hx8).keep hx9 (fun e=>Blk.ne (hM1.e0 hx8).blk hR8 (by decide) e) (Apart.one hR8 (by decide)),HF.out,rfl,(hst.m0 hx8).fresh hx9 (fun q e=>by have:=HC.out;have:q=C+1:=e;omega)⟩
 have hna' : Fsm.nodeAt s.data c.d.node.id=some x:=hf
 obtain ⟨x0,⟨x1,x2⟩,x3,x4,x5,x6,x7⟩:=x
 have HF:=Lib.hid (show Fsm.drain s.data c.d=(if c.node.drain then Fsm.system (s.allocs.foldl (Ed c.node.id) ({ s with nodes:=s.nodes.set i ⟨x0,⟨x1,x2⟩,x3,c.node.drain,x5,x6,x7⟩ }:Aa).data) else Fsm.came (Fsm.system (s.allocs.foldl (Ed c.node.id) ({ s with nodes:=s.nodes.set i ⟨x0,⟨x1,x2⟩,x3,c.node.drain,x5,x6,x7⟩ }:Aa).data)),⟨0,0,[]⟩) by unfold Fsm.drain;rw [hna'];simp only [];rw [show Fsm.Ap (fun n=>n.id == c.d.node.id) (fun n=>{ n with drain:=c.d.node.drain }) s.data.nodes=_ from Fsm.BF (f:=fun n:NodD=>{ n with drain:=c.d.node.drain }) hxi hp hfirst];rfl)
 have hW0:Fsm.Wf ({ s with nodes:=s.nodes.set i ⟨x0,⟨x1,x2⟩,x3,c.node.drain,x5,x6,x7⟩ }:Aa).data:=by have h9:=Fsm.Ep hw (fun n=>n.id == c.d.node.id) (fun n=>{ n with drain:=c.d.node.drain }) (fun _=>rfl);rw [show Fsm.Ap (fun n=>n.id == c.d.node.id) (fun n=>{ n with drain:=c.d.node.drain }) s.data.nodes=_ from Fsm.BF (f:=fun n:NodD=>{ n with drain:=c.d.node.drain }) hxi hp hfirst] at h9;exact h9
 have HX:=Lib.hid hxi
 have HI:=Lib.hid hi
 have hk0:(0:Int)≤(i:Int):=by omega
 have hk1:(i:Int) < s.nN:=by have:=hnl.out;have:=(List.getElem?_eq_some_iff.1 hxi).1;omega
 have hng:¬ ((i:Int) < 0):=by omega
 clear hf hi hxi hfirst hp hna'
 obtain ⟨hxW,hCW,hRW⟩:=cmd0 w c
 have hzW:=hxW.size
 have hMW:=hM.e0 hxW
 go_enter Tryz.func55,Tryz.ntmps55
 go_upto_region 1 with (first|go_skip|go_guarded)
 generalize hC:w.heap.size=C at hCW hRW hzW ⊢
 have HC:=Lib.hid hC
 clear hC
 generalize ((w.alloc (.cells c.arr 51)).alloc (.cells #[.int .i64 0,.int .i64 0,.slice none 0 0] 34))=W at hxW hCW hRW hzW hMW ⊢
 have hsl:=hMW.own.slN
 have ck:W.cell? ⟨C,10,none⟩=some (.int .i64 c.node.id):=hCW.cell 10
 have hd:Ext Nothing W W.drew:=(Ext.refl _ _).drew
 refine zS (S:=fun W'=>Ext Nothing W W') (by kernel_rfl) ?_
 generalize W.drew=Wd at hd ⊢
 refine zV 0 (.pointer (some ⟨b,0,none⟩)) rfl (by kernel_rfl) hd (fun _ _ _ h=>h) (fun W' hS'=>by go_simp) ?_
 refine zV 1 (.pointer (some ⟨b,0,none⟩)) rfl (by kernel_rfl) hd (fun _ _ _ h=>h) (fun W' hS'=>by go_simp) ?_
 refine zV 2 (.pointer (some ⟨b,0,none⟩)) rfl (by kernel_rfl) hd (fun _ _ _ h=>h) (fun W' hS'=>by go_simp) ?_
 refine zV 3 (.agg s.arr) rfl (by kernel_rfl) hd (fun _ _ _ h=>h) (fun W' hS'=>by exact run_load_struct (sz:=9) (b:=b) (off:=0) rfl Aj (by go_simp) (fun j u hu=>hS'.c0 (hMW.at j u hu)) rfl) ?_
 refine zV 4 (.pointer (some ⟨C,10,none⟩)) rfl (by kernel_rfl) hd (fun _ _ _ h=>h) (fun W' hS'=>by go_simp) ?_
 refine zV 5 (.pointer (some ⟨C,10,none⟩)) rfl (by kernel_rfl) hd (fun _ _ _ h=>h) (fun W' hS'=>by go_simp) ?_
 refine zV 6 (.int .i64 c.node.id) rfl (by kernel_rfl) hd (fun _ _ _ h=>h) (fun W' hS'=>by have q:=hS'.c0 ck;go_simp) ?_
 (try simp only [Act.put,zA,zB,zC,zD,zE,zF])
 refine zO 7 (by kernel_rfl) ?_
 refine Ai (f:=66) (args:=#[.agg s.arr,.int .i64 c.node.id]) rfl (by rfl) (by go_simp) ((Dq s.AN s.nN s.cN s.nodes c.node.id Wd (hsl.Al hd) hnN _ _ _ _ _ _ _ _ _ rfl).mono ?_)
 rintro e w1 ⟨rfl,hx1⟩
 (rw [HI.out])
 have hxc:=hd.tr hx1
 refine ⟨_,rfl,hxc,?_⟩
 (try simp only [Act.put,zA,zB,zC,zD,zE,zF])
 refine zV 8 (.int .i64 (i:Int)) rfl (by kernel_rfl) hxc (fun _ _ _ h=>h) (fun W' hS'=>by go_simp) ?_
 (try simp only [Act.put,zA,zB,zC,zD,zE,zF])
 refine wpAnyH_done (by kernel_rfl) ?_ _
 (try simp only [Act.put,zA,zB,zC,zD,zE,zF])
 clear hd hx1
 have hM1:=hMW.e0 hxc
 have hR1:=hRW.e0 hxc
 have hC1:=hCW.e0 hxc
 have hx1:=hxW.tr hxc
 clear hxc ck hsl hMW hRW hCW
 go_upto_region 4 with (first|go_skip|go_guarded)
 clear hxW
 have hd:Ext Nothing w1 w1.drew:=(Ext.refl _ _).drew
 have hbg0:True:=trivial
 obtain ⟨g,cur,hAe,hob,hgb,_,hce0,hput0⟩:=hM1.own.IY HX.out
 change s.AN=_ at hAe
 have m4:w1.cell? ⟨b,4,none⟩=some (.slice (some ⟨g,0,none⟩) s.nN s.cN):=by rw [← hAe];exact hM1.blk.cell 4
 have HA:=Lib.hid hAe
 clear hAe hput0 hce0
 have c14:w1.cell? ⟨C,14,none⟩=some (.bool c.node.drain):=hC1.cell 14
 have hbg:¬ (b=g):=fun e=>Blk.ne hM1.blk hgb (by decide) e
 have hCg:¬ (C=g):=fun e=>Blk.ne hC1 hgb (by decide) e
 refine zS (S:=fun W'=>Ext (fun q=>q=g) w1 W') (by kernel_rfl) ?_
 have hS:=hd.any (S:=fun q=>q=g)
 generalize w1.drew=Wd at hd hS ⊢
 refine zV 0 (.pointer (some ⟨b,0,none⟩)) rfl (by kernel_rfl) hS (fun _ _ _ h=>h) (fun W' hS'=>by go_simp) ?_
 refine zV 1 (.pointer (some ⟨b,0,none⟩)) rfl (by kernel_rfl) hS (fun _ _ _ h=>h) (fun W' hS'=>by go_simp) ?_
 refine zV 2 (.pointer (some ⟨b,0,none⟩)) rfl (by kernel_rfl) hS (fun _ _ _ h=>h) (fun W' hS'=>by go_simp) ?_
 refine zV 3 (.pointer (some ⟨b,4,none⟩)) rfl (by kernel_rfl) hS (fun _ _ _ h=>h) (fun W' hS'=>by go_simp) ?_
 refine zV 4 (.slice (some ⟨g,0,none⟩) s.nN s.cN) rfl (by kernel_rfl) hS (fun _ _ _ h=>h) (fun W' hS'=>by have q:=hS'.cell m4 hbg;go_simp) ?_
 refine zV 5 (.int .i64 (i:Int)) rfl (by kernel_rfl) hS (fun _ _ _ h=>h) (fun W' hS'=>by go_simp) ?_
 refine zV 6 (.pointer (some ⟨C,10,none⟩)) rfl (by kernel_rfl) hS (fun _ _ _ h=>h) (fun W' hS'=>by go_simp) ?_
 refine zV 7 (.pointer (some ⟨C,14,none⟩)) rfl (by kernel_rfl) hS (fun _ _ _ h=>h) (fun W' hS'=>by go_simp) ?_
 refine zV 8 (.bool c.node.drain) rfl (by kernel_rfl) hS (fun _ _ _ h=>h) (fun W' hS'=>by have q:=hS'.cell c14 hCg;go_simp) ?_
 refine zV 9 (.pointer (some ⟨g,i*8,none⟩)) rfl (by kernel_rfl) hS (fun _ _ _ h=>h) (fun W' hS'=>by go_simp) ?_
 refine zV 10 (.pointer (some ⟨g,i*8+4,none⟩)) rfl (by kernel_rfl) hS (fun _ _ _ h=>h) (fun W' hS'=>by go_simp) ?_
 (try simp only [Act.put,zA,zB,zC,zD,zE,zF])
 refine zO 11 (by kernel_rfl) ?_
 have hMd:=hM1.e0 hd
 obtain ⟨g2,cur2,hAe2,_,hgb2,_,hce2,hput2⟩:=hMd.own.IY HX.out
 have hgg:g=g2:=by have h7:s.AN=some ⟨g2,0,none⟩:=hAe2;rw [HA.out] at h7;injection h7 with h7;injection h7
 subst hgg
 clear hAe2
 have k4:Wd.cell? ⟨g,i*8+4,none⟩=some (.bool x4):=hce2 4 _ rfl
 have f4:Wd.frozen? ⟨g,i*8+4,none⟩=false:=hgb2.frozen _
 have hs4:Ext (fun q=>q=g) Wd (Wd.setCell ⟨g,i*8+4,none⟩ (.bool c.node.drain)):=Ext.set1 _ _ _ _
 refine AC (w':=(Wd.setCell ⟨g,i*8+4,none⟩ (.bool c.node.drain))) rfl (by rfl) (by go_simp) ⟨hS.trans hs4 (fun q hq e=>e),?_⟩
 (try simp only [Act.put,zA,zB,zC,zD,zE,zF])
 refine wpAnyH_done (by kernel_rfl) ?_ _
 (try simp only [Act.put,zA,zB,zC,zD,zE,zF])
 have hO4:Aw base (Wd.setCell ⟨g,i*8+4,none⟩ (.bool c.node.drain)) ({ s with nodes:=s.nodes.set i ⟨x0,⟨x1,x2⟩,x3,c.node.drain,x5,x6,x7⟩ }:Aa):=hput2 4 (.bool c.node.drain) ⟨x0,⟨x1,x2⟩,x3,c.node.drain,x5,x6,x7⟩ (by decide) rfl
 have hM4:Az base (Wd.setCell ⟨g,i*8+4,none⟩ (.bool c.node.drain)) b ({ s with nodes:=s.nodes.set i ⟨x0,⟨x1,x2⟩,x3,c.node.drain,x5,x6,x7⟩ }:Aa) false:=⟨hMd.blk.ext hs4 hbg,hO4,hMd.lo⟩
 have hC4:=(hC1.e0 hd).ext hs4 hCg
 have hR4:=(hR1.e0 hd).ext hs4 (fun e=>Blk.ne hR1 hgb (by decide) e)
 have hst4:Step w (Wd.setCell ⟨g,i*8+4,none⟩ (.bool c.node.drain)) b s ({ s with nodes:=s.nodes.set i ⟨x0,⟨x1,x2⟩,x3,c.node.drain,x5,x6,x7⟩ }:Aa):=(Step.of0 (hx1.tr hd)).cell (s2:=({ s with nodes:=s.nodes.set i ⟨x0,⟨x1,x2⟩,x3,c.node.drain,x5,x6,x7⟩ }:Aa)) (MW.oN (s:=s) hob) (fun q hq=>hq) _
 clear k4 f4 hs4 hce2 hput2 hO4 hS m4 c14 hd hx1
 generalize (Wd.setCell ⟨g,i*8+4,none⟩ (.bool c.node.drain))=w4 at hM4 hC4 hR4 hst4 ⊢
 have m5:w4.cell? ⟨b,5,none⟩=some (.slice s.AA s.nA s.cA):=hM4.blk.cell 5
 have hnC:¬ MW ({ s with nodes:=s.nodes.set i ⟨x0,⟨x1,x2⟩,x3,c.node.drain,x5,x6,x7⟩ }:Aa) b C:=hM4.Cn hC4 (by decide)
 have hnR:¬ MW ({ s with nodes:=s.nodes.set i ⟨x0,⟨x1,x2⟩,x3,c.node.drain,x5,x6,x7⟩ }:Aa) b (C+1):=hM4.Cn hR4 (by decide)
 have hz4:=hst4.size
 go_wp2_with (first|go_skip|go_guarded)
 clear m5
 go_loopw [36] (fun iv wr=>∃ t:Nat,t≤s.nA∧iv=.int .i64 t∧∃ A ca l,Az base wr b (({ s with nodes:=s.nodes.set i ⟨x0,⟨x1,x2⟩,x3,c.node.drain,x5,x6,x7⟩ }:Aa).Bf A ca l) false∧(({ s with nodes:=s.nodes.set i ⟨x0,⟨x1,x2⟩,x3,c.node.drain,x5,x6,x7⟩ }:Aa).Bf A ca l).data=(s.allocs.take t).foldl (Ed c.node.id) ({ s with nodes:=s.nodes.set i ⟨x0,⟨x1,x2⟩,x3,c.node.drain,x5,x6,x7⟩ }:Aa).data∧l.length≤s.evals.length+t∧Fsm.Wf (({ s with nodes:=s.nodes.set i ⟨x0,⟨x1,x2⟩,x3,c.node.drain,x5,x6,x7⟩ }:Aa).Bf A ca l).data∧Step w4 wr b ({ s with nodes:=s.nodes.set i ⟨x0,⟨x1,x2⟩,x3,c.node.drain,x5,x6,x7⟩ }:Aa) (({ s with nodes:=s.nodes.set i ⟨x0,⟨x1,x2⟩,x3,c.node.drain,x5,x6,x7⟩ }:Aa).Bf A ca l)) (fun iv _=>s.nA - (intOf iv).toNat)
 case atStart=>exact ⟨0,Nat.zero_le _,rfl,s.AE,s.cE,s.evals,by rw [Cc (s:=({ s with nodes:=s.nodes.set i ⟨x0,⟨x1,x2⟩,x3,c.node.drain,x5,x6,x7⟩ }:Aa)) hM.own.el];exact hM4,by rw [Cc (s:=({ s with nodes:=s.nodes.set i ⟨x0,⟨x1,x2⟩,x3,c.node.drain,x5,x6,x7⟩ }:Aa)) hM.own.el];rfl,Nat.le_refl _,by rw [Cc (s:=({ s with nodes:=s.nodes.set i ⟨x0,⟨x1,x2⟩,x3,c.node.drain,x5,x6,x7⟩ }:Aa)) hM.own.el];exact hW0,by rw [Cc (s:=({ s with nodes:=s.nodes.set i ⟨x0,⟨x1,x2⟩,x3,c.node.drain,x5,x6,x7⟩ }:Aa)) hM.own.el];exact Step.refl _ _ _⟩
 case round =>
  obtain ⟨t,ht,rfl,A,ca,l,hMr,hD,hL,hW,hx⟩:=hrel
  by_cases hlt:t < s.nA
  ·have hzr:=hx.size
   obtain ⟨hjn,ga,offa,hAe,hce⟩:=hMr.own.slA.get (Ext.refl Nothing wr) (k:=t) hlt
   change s.AA=_ at hAe
   have HAA:=Lib.hid hAe
   rw [hAe]
   replace hjn:t < s.allocs.length:=hjn
   have hS:=Lib.hid (show (s.allocs.take (t+1)).foldl (Ed c.node.id) ({ s with nodes:=s.nodes.set i ⟨x0,⟨x1,x2⟩,x3,c.node.drain,x5,x6,x7⟩ }:Aa).data=Ed c.node.id ((s.allocs.take t).foldl (Ed c.node.id) ({ s with nodes:=s.nodes.set i ⟨x0,⟨x1,x2⟩,x3,c.node.drain,x5,x6,x7⟩ }:Aa).data) (s.allocs[t]'hjn) by rw [List.take_add_one,List.foldl_append,List.getElem?_eq_getElem hjn];rfl)
   change ∀ j u,(Ac.cells (s.allocs[t]'hjn))[j]? = some u→_ at hce
   generalize (s.allocs[t]'hjn)=y at hS hce
   obtain ⟨y0,y1,y2,y3,y4,y5,y6,⟨y7,y8⟩,y9,y10⟩:=y
   have hk0:(0:Int)≤(t:Int):=by omega
   have hk2:(t:Int) < s.nA:=by omega
   have HD:=Lib.hid hD
   have HT:=Lib.hid hlt
   have HL:=Lib.hid hL
   clear hD hlt hAe hL
   have hCr:=hC4.step hx hnC
   have hxa:Ext Nothing wr (wr.alloc (.cells #[.int .i64 y0,.int .i64 y1,.int .i64 y2,.int .i64 y3,.int .i64 y4,.int .i64 y5,.int .i64 y6,.int .i64 y7,.int .i64 y8,.bool y9,.int .i64 y10] 55)):=Ext.Ay
   have hBy:Blk (wr.alloc (.cells #[.int .i64 y0,.int .i64 y1,.int .i64 y2,.int .i64 y3,.int .i64 y4,.int .i64 y5,.int .i64 y6,.int .i64 y7,.int .i64 y8,.bool y9,.int .i64 y10] 55)) wr.heap.size 55 #[.int .i64 y0,.int .i64 y1,.int .i64 y2,.int .i64 y3,.int .i64 y4,.int .i64 y5,.int .i64 y6,.int .i64 y7,.int .i64 y8,.bool y9,.int .i64 y10]:=Blk.new _ _ _
   have hMd:=hMr.e0 hxa
   have c10:(wr.alloc (.cells #[.int .i64 y0,.int .i64 y1,.int .i64 y2,.int .i64 y3,.int .i64 y4,.int .i64 y5,.int .i64 y6,.int .i64 y7,.int .i64 y8,.bool y9,.int .i64 y10] 55)).cell? ⟨C,10,none⟩=some (.int .i64 c.node.id):=(hCr.e0 hxa).cell 10
   go_upto_region 8 with (first|go_skip|go_guarded|((with_reducible refine isW ?_);refine Ad rfl 55 _ rfl Ba ga (offa+t*11) rfl #[.int .i64 y0,.int .i64 y1,.int .i64 y2,.int .i64 y3,.int .i64 y4,.int .i64 y5,.int .i64 y6,.int .i64 y7,.int .i64 y8,.bool y9,.int .i64 y10] hce rfl ?_))
   have hxz:=hx.m0 hxa
   have f1:(wr.alloc (.cells #[.int .i64 y0,.int .i64 y1,.int .i64 y2,.int .i64 y3,.int .i64 y4,.int .i64 y5,.int .i64 y6,.int .i64 y7,.int .i64 y8,.bool y9,.int .i64 y10] 55)).cell? ⟨wr.heap.size,1,none⟩=some (.int .i64 y1):=hBy.cell 1
   generalize hby:wr.heap.size=BY at hBy f1 hzr ⊢
   clear hby
   generalize (wr.alloc (.cells #[.int .i64 y0,.int .i64 y1,.int .i64 y2,.int .i64 y3,.int .i64 y4,.int .i64 y5,.int .i64 y6,.int .i64 y7,.int .i64 y8,.bool y9,.int .i64 y10] 55))=wd at hxa hBy hMd c10 hxz f1 ⊢
   have f0:wd.cell? ⟨BY,0,none⟩=some (.int .i64 y0):=hBy.cell 0
   have f2:wd.cell? ⟨BY,2,none⟩=some (.int .i64 y2):=hBy.cell 2
   have f3:wd.cell? ⟨BY,3,none⟩=some (.int .i64 y3):=hBy.cell 3
   have f4:wd.cell? ⟨BY,4,none⟩=some (.int .i64 y4):=hBy.cell 4
   have f5:wd.cell? ⟨BY,5,none⟩=some (.int .i64 y5):=hBy.cell 5
   have f6:wd.cell? ⟨BY,6,none⟩=some (.int .i64 y6):=hBy.cell 6
   have f7:wd.cell? ⟨BY,7,none⟩=some (.int .i64 y7):=hBy.cell 7
   have f8:wd.cell? ⟨BY,8,none⟩=some (.int .i64 y8):=hBy.cell 8
   have f9:wd.cell? ⟨BY,9,none⟩=some (.bool y9):=hBy.cell 9
   have f10:wd.cell? ⟨BY,10,none⟩=some (.int .i64 y10):=hBy.cell 10
   cases e1:(y5 == c.node.id) with
   | false =>
    have hs1:=Lib.hid (show (s.allocs.take (t+1)).foldl (Ed c.node.id) ({ s with nodes:=s.nodes.set i ⟨x0,⟨x1,x2⟩,x3,c.node.drain,x5,x6,x7⟩ }:Aa).data=(({ s with nodes:=s.nodes.set i ⟨x0,⟨x1,x2⟩,x3,c.node.drain,x5,x6,x7⟩ }:Aa).Bf A ca l).data by rw [hS.out,← HD.out];exact if_neg (by rw [show (y5 == c.node.id && !Bv ⟨y0,y1,y2,y3,y4,y5,y6,⟨y7,y8⟩,y9,y10⟩)=false from (by show ((y5 == c.node.id) && !decide (3≤y10))=false;rw [e1];rfl)];exact Bool.false_ne_true))
    go_wp2_with (first|go_skip|go_guarded)
    go_roundw
    case rel=>rw [← HAA.out];exact ⟨t+1,HT.out,by go_num,A,ca,l,hMd,hs1.out.symm,by have:=HL.out;omega,hW,hxz⟩
    case measure=>have:=HT.out;simp [intOf];omega
   | true =>
    cases e2:decide (3≤y10) with
    | true =>
     have hs1:=Lib.hid (show (s.allocs.take (t+1)).foldl (Ed c.node.id) ({ s with nodes:=s.nodes.set i ⟨x0,⟨x1,x2⟩,x3,c.node.drain,x5,x6,x7⟩ }:Aa).data=(({ s with nodes:=s.nodes.set i ⟨x0,⟨x1,x2⟩,x3,c.node.drain,x5,x6,x7⟩ }:Aa).Bf A ca l).data by rw [hS.out,← HD.out];exact if_neg (by rw [show (y5 == c.node.id && !Bv ⟨y0,y1,y2,y3,y4,y5,y6,⟨y7,y8⟩,y9,y10⟩)=false from (by show ((y5 == c.node.id) && !decide (3≤y10))=false;rw [e1,e2];rfl)];exact Bool.false_ne_true))
     go_wp2_with (first|go_skip|go_guarded|(go_at_call 74;(with_reducible refine (Bt #[.int .i64 y0,.int .i64 y1,.int .i64 y2,.int .i64 y3,.int .i64 y4,.int .i64 y5,.int .i64 y6,.int .i64 y7,.int .i64 y8,.bool y9,.int .i64 y10] y10 wd rfl rfl).mono ?_);rintro e wz ⟨rfl,hx1⟩;(rw [e2])))
     go_roundw
     case rel=>rw [← HAA.out];exact ⟨t+1,HT.out,by go_num,A,ca,l,hMd.e0 hx1,hs1.out.symm,by have:=HL.out;omega,hW,hxz.m0 hx1⟩
     case measure=>have:=HT.out;simp [intOf];omega
    | false =>
     have hs1:=Lib.hid (show (s.allocs.take (t+1)).foldl (Ed c.node.id) ({ s with nodes:=s.nodes.set i ⟨x0,⟨x1,x2⟩,x3,c.node.drain,x5,x6,x7⟩ }:Aa).data=Fsm.eval (({ s with nodes:=s.nodes.set i ⟨x0,⟨x1,x2⟩,x3,c.node.drain,x5,x6,x7⟩ }:Aa).Bf A ca l).data y1 by rw [hS.out,← HD.out];exact if_pos (show (y5 == c.node.id && !Bv ⟨y0,y1,y2,y3,y4,y5,y6,⟨y7,y8⟩,y9,y10⟩)=true from (by show ((y5 == c.node.id) && !decide (3≤y10))=true;rw [e1,e2];rfl)))
     go_upto_region 9 with (first|go_skip|go_guarded|(go_at_call 74;(with_reducible refine (Bt #[.int .i64 y0,.int .i64 y1,.int .i64 y2,.int .i64 y3,.int .i64 y4,.int .i64 y5,.int .i64 y6,.int .i64 y7,.int .i64 y8,.bool y9,.int .i64 y10] y10 wd rfl rfl).mono ?_);rintro e wz ⟨rfl,hx1⟩;(rw [e2])))
     have hM1:=hMd.e0 hx1
     have f1:=hx1.c0 f1
     have hz9:=hx1.size
     have hzd:=hxz.size
     have hq1:(({ s with nodes:=s.nodes.set i ⟨x0,⟨x1,x2⟩,x3,c.node.drain,x5,x6,x7⟩ }:Aa).Bf A ca l).jobs.length≤67108864:=by show s.jobs.length≤_;omega
     have hq2:(({ s with nodes:=s.nodes.set i ⟨x0,⟨x1,x2⟩,x3,c.node.drain,x5,x6,x7⟩ }:Aa).Bf A ca l).evals.length≤67108862:=by show l.length≤_;have:=HL.out;have:=HT.out;have:=hal.out;omega
     have hq3:Fsm.Up EvalD.job (({ s with nodes:=s.nodes.set i ⟨x0,⟨x1,x2⟩,x3,c.node.drain,x5,x6,x7⟩ }:Aa).Bf A ca l).evals:=hW.e
     have hq4:base≤wz.heap.size:=by omega
     go_wp2_with (first|go_skip|go_guarded|(go_at_call 64;(with_reducible refine (Ef base b (({ s with nodes:=s.nodes.set i ⟨x0,⟨x1,x2⟩,x3,c.node.drain,x5,x6,x7⟩ }:Aa).Bf A ca l) false y1 wz hM1 hq4 hq1 hq2 hq3).mono ?_);rintro e w5 ⟨A2,c2,l2,rfl,hM5,hD5,hx5⟩))
     have hlen:l2.length≤l.length+1:=by
      have e3:l2.length=(Fsm.eval (({ s with nodes:=s.nodes.set i ⟨x0,⟨x1,x2⟩,x3,c.node.drain,x5,x6,x7⟩ }:Aa).Bf A ca l).data y1).evals.length:=congrArg (fun z:Ab=>z.evals.length) hD5
      have e4:=Fsm.Eg (({ s with nodes:=s.nodes.set i ⟨x0,⟨x1,x2⟩,x3,c.node.drain,x5,x6,x7⟩ }:Aa).Bf A ca l).data y1
      have e5:(({ s with nodes:=s.nodes.set i ⟨x0,⟨x1,x2⟩,x3,c.node.drain,x5,x6,x7⟩ }:Aa).Bf A ca l).data.evals.length=l.length:=rfl
      omega
     go_roundw
     case rel=>rw [← HAA.out];exact ⟨t+1,HT.out,by go_num,A2,c2,l2,hM5,hD5.trans hs1.out.symm,by have:=HL.out;omega,by have h9:=Fsm.Cx hW y1;rw [← hD5] at h9;exact h9,(hxz.m0 hx1).trans hx5⟩
     case measure=>have:=HT.out;simp [intOf];omega
  have hnl2:¬ ((t:Int) < s.nA):=by omega
  have HS:=Lib.hid (show (({ s with nodes:=s.nodes.set i ⟨x0,⟨x1,x2⟩,x3,c.node.drain,x5,x6,x7⟩ }:Aa).Bf A ca l).data=s.allocs.foldl (Ed c.node.id) ({ s with nodes:=s.nodes.set i ⟨x0,⟨x1,x2⟩,x3,c.node.drain,x5,x6,x7⟩ }:Aa).data by rw [hD,List.take_of_length_le (by have:=hal.out;omega)])
  have HL:=Lib.hid hL
  clear hD hL
  have hCr:=hC4.step hx hnC
  have hRr:=hR4.step hx hnR
  have hstr:=hst4.trans hx
  have hzr:=hx.size
  have m10:wr.cell? ⟨b,10,none⟩=some (.bool false):=hMr.blk.cell 10
  have m10f:wr.frozen? ⟨b,10,none⟩=false:=hMr.blk.frozen 10
  have c14:wr.cell? ⟨C,14,none⟩=some (.bool c.node.drain):=hCr.cell 14
  go_upto_region 12 with (first|go_skip|go_guarded)
  have hMx:Az base (wr.setCell ⟨b,10,none⟩ (.bool (!c.node.drain))) b (({ s with nodes:=s.nodes.set i ⟨x0,⟨x1,x2⟩,x3,c.node.drain,x5,x6,x7⟩ }:Aa).Bf A ca l) (!c.node.drain):=hMr.put 10 _ hMr.own rfl
  have hsx:Ext (fun q=>q=b) wr (wr.setCell ⟨b,10,none⟩ (.bool (!c.node.drain))):=Ext.set1 _ _ _ _
  have hRx:=hRr.ext hsx (fun e=>Blk.ne hRr hMr.blk (by decide) e)
  have hstx:Step w (wr.setCell ⟨b,10,none⟩ (.bool (!c.node.drain))) b s (({ s with nodes:=s.nodes.set i ⟨x0,⟨x1,x2⟩,x3,c.node.drain,x5,x6,x7⟩ }:Aa).Bf A ca l):=hstr.cell (s2:=(({ s with nodes:=s.nodes.set i ⟨x0,⟨x1,x2⟩,x3,c.node.drain,x5,x6,x7⟩ }:Aa).Bf A ca l)) (.inl rfl) (fun q hq=>hq) _
  clear m10 m10f c14 hsx
  generalize (wr.setCell ⟨b,10,none⟩ (.bool (!c.node.drain)))=wx at hMx hRx hstx ⊢
  have hq4:base≤wx.heap.size:=by have:=hstx.size;omega
  have hq1:(({ s with nodes:=s.nodes.set i ⟨x0,⟨x1,x2⟩,x3,c.node.drain,x5,x6,x7⟩ }:Aa).Bf A ca l).jobs.length≤1048576:=hJ
  have hq2:(({ s with nodes:=s.nodes.set i ⟨x0,⟨x1,x2⟩,x3,c.node.drain,x5,x6,x7⟩ }:Aa).Bf A ca l).evals.length≤33554432:=by show l.length≤_;have:=HL.out;omega
  have hnRx:¬ MW (({ s with nodes:=s.nodes.set i ⟨x0,⟨x1,x2⟩,x3,c.node.drain,x5,x6,x7⟩ }:Aa).Bf A ca l) b (C+1):=hMx.Cn hRx (by decide)
  go_wp2_with (first|go_skip|go_guarded|(go_at_call 70;(with_reducible refine (Hu base b (({ s with nodes:=s.nodes.set i ⟨x0,⟨x1,x2⟩,x3,c.node.drain,x5,x6,x7⟩ }:Aa).Bf A ca l) (!c.node.drain) wx hMx hq4 hq1 hq2 hW).mono ?_);rintro e w7 ⟨A7,c7,l7,rfl,hM9,hD7,hl7,hx7⟩;have hR7:=hRx.step hx7 hnRx)|((with_reducible refine isW ?_);refine Af rfl 34 _ _ rfl STResult (C+1) rfl (Au 0 0) rfl hR7 rfl rfl rfl ?_;intro w9 hR9 hx9))
  exact bodyPost_ret (results_cell rfl STResult (g:=C+1) rfl hR9 rfl) rfl ⟨_,(!c.node.drain),⟨0,0,[]⟩,rfl,hM9.keep hx9 (fun e=>Blk.ne hM9.blk hR7 (by decide) e) (Apart.one hR7 (by decide)),by rw [HF.out,hD7,HS.out];cases c.node.drain <;> rfl,rfl,(hstx.trans hx7).fresh hx9 (fun q e=>by have:=HC.out;have:q=C+1:=e;omega)⟩
end Go.Proofs.YtccekmeifanipaaGreat
