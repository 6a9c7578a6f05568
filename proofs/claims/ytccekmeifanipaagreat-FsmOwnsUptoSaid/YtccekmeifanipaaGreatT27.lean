/- Parts of the proof: MBeat -/
import Derived.Test.YtccekmeifanipaaGreatT22
import Derived.Test.YtccekmeifanipaaGreatT23
import Derived.Test.YtccekmeifanipaaGreatT20
import Derived.Test.YtccekmeifanipaaGreatT13
namespace Go.Proofs.YtccekmeifanipaaGreat
set_option linter.unusedVariables false
set_option linter.unusedSimpArgs false
set_option linter.unusedSectionVars false
open Go.RowKit
theorem Fsm.KA {n m:NodD} (h1:n.id=m.id) (h2:n.epoch=m.epoch):Fsm.report n=Fsm.report m:=by
 funext z r
 unfold Fsm.report Fsm.takes
 rw [h1,h2]
structure PD (base b:Nat) (s:Aa) (c:Bl) (w:World) (e:Ending) (w' : World):Prop where
 out:∃ s' cm' r rv,e=.returned (.agg #[.int .i64 r.code,.int .i64 r.value,rv])∧Az base w' b s' cm'∧Fsm.Ec s.data c.d=((if cm' then Fsm.came s'.data else s'.data),r)∧CJ base w' rv r.allocs∧Step w w' b s s'
set_option maxRecDepth 20000 in
set_option maxHeartbeats 16000000 in
theorem Re (base b:Nat) (s:Aa) (c:Bl) (w:World) (hM:Az base w b s false) (hc:Dx base w c) (hb:base≤w.heap.size) (hJ:s.jobs.length≤1048576) (hN:s.nodes.length≤1048576) (hA:s.allocs.length≤1048576) (hDl:s.deploys.length≤1048576) (hSt:s.stable.length≤33554432) (hE:s.evals.length≤16777216) (hw:Fsm.Wf s.data) :
  Calls Tryz.prog 53 #[.pointer (some ⟨b,0,none⟩),.agg c.arr] w fun e w'=>PD base b s c w e w':=by
 have hnl:=Lib.hid hM.own.nl
 have hrl:=Lib.hid hc.r.len
 by_cases q1:64 < c.rn
 ·have HF:=Lib.hid (show Fsm.Ec s.data c.d=(s.data,⟨1,0,[]⟩) by unfold Fsm.Ec;rw [if_pos (show (decide (64 < c.d.reports.length) || decide (c.d.node.seq < 1) || decide (Fsm.BU < c.d.node.seq))=true from by rw [show decide (64 < c.d.reports.length)=true from by simp;have:=hrl.out;show 64 < c.reports.length;omega];rfl)];rfl)
  have e1:decide (64 < (c.rn:Int))=true:=by simp;omega
  obtain ⟨hxW,hCW,hRW⟩:=cmd0 w c
  have hzW:=hxW.size
  have hMW:=hM.e0 hxW
  go_enter Tryz.func53,Tryz.ntmps53
  go_upto_region 1 with (first|go_skip|go_guarded)
  generalize hC:w.heap.size=C at hCW hRW hzW ⊢
  have HC:=Lib.hid hC
  clear hC
  generalize ((w.alloc (.cells c.arr 51)).alloc (.cells #[.int .i64 0,.int .i64 0,.slice none 0 0] 34))=W at hxW hCW hRW hzW hMW ⊢
  have c18:W.cell? ⟨C,18,none⟩=some (.slice c.RA c.rn c.rc):=hCW.cell 18
  have c17:W.cell? ⟨C,17,none⟩=some (.int .i64 c.node.seq):=hCW.cell 17
  go_upto_region 2 with (first|go_skip|go_guarded)
  clear c18 c17 e1
  have hst:=Step.of0 (b:=b) (s:=s) hxW
  go_wp2_with (first|go_skip|go_guarded|(go_at_call 31;(with_reducible refine (mNo 1 W).mono ?_);rintro e w8 ⟨rfl,hx8⟩;have hR8:=hRW.e0 hx8)|((with_reducible refine isW ?_);refine Af rfl 34 _ _ rfl STResult (C+1) rfl (Au 1 0) rfl hR8 rfl rfl rfl ?_;intro w9 hR9 hx9))
  exact bodyPost_ret (results_cell rfl STResult (g:=C+1) rfl hR9 rfl) rfl ⟨⟨s,false,⟨1,0,[]⟩,.slice none 0 0,rfl,(hMW.e0 hx8).keep hx9 (fun e=>Blk.ne (hMW.e0 hx8).blk hR8 (by decide) e) (Apart.one hR8 (by decide)),HF.out,CJ.nil _ _,(hst.m0 hx8).fresh hx9 (fun q e=>by have:=HC.out;have:q=C+1:=e;omega)⟩⟩
 have e1:decide (64 < (c.rn:Int))=false:=by simp;omega
 have d1:decide (64 < c.d.reports.length)=false:=by simp;have:=hrl.out;show c.reports.length≤64;omega
 cases q2:inB c.node.seq 1 1099511627776 with
 | false =>
  have HF:=Lib.hid (show Fsm.Ec s.data c.d=(s.data,⟨1,0,[]⟩) by unfold Fsm.Ec;rw [if_pos (show (decide (64 < c.d.reports.length) || decide (c.d.node.seq < 1) || decide (Fsm.BU < c.d.node.seq))=true from by rw [d1];show (decide (c.node.seq < 1) || decide (Fsm.BU < c.node.seq))=true;unfold Fsm.BU;simp [inB] at q2 ⊢;omega)];rfl)
  have Q2:=Lib.hid q2
  clear q2 d1
  obtain ⟨hxW,hCW,hRW⟩:=cmd0 w c
  have hzW:=hxW.size
  have hMW:=hM.e0 hxW
  go_enter Tryz.func53,Tryz.ntmps53
  go_upto_region 1 with (first|go_skip|go_guarded)
  generalize hC:w.heap.size=C at hCW hRW hzW ⊢
  have HC:=Lib.hid hC
  clear hC
  generalize ((w.alloc (.cells c.arr 51)).alloc (.cells #[.int .i64 0,.int .i64 0,.slice none 0 0] 34))=W at hxW hCW hRW hzW hMW ⊢
  have c18:W.cell? ⟨C,18,none⟩=some (.slice c.RA c.rn c.rc):=hCW.cell 18
  have c17:W.cell? ⟨C,17,none⟩=some (.int .i64 c.node.seq):=hCW.cell 17
  go_upto_region 2 with (first|go_skip|go_guarded|(go_at_call 33;(with_reducible refine (BR c.node.seq 1 1099511627776 W).mono ?_);rintro e w1 ⟨rfl,hx1⟩;(rw [Q2.out])))
  clear c18 c17 e1
  have hM1:=hMW.e0 hx1
  have hR1:=hRW.e0 hx1
  have hst:=Step.of0 (b:=b) (s:=s) (hxW.tr hx1)
  go_wp2_with (first|go_skip|go_guarded|(go_at_call 31;(with_reducible refine (mNo 1 w1).mono ?_);rintro e w8 ⟨rfl,hx8⟩;have hR8:=hR1.e0 hx8)|((with_reducible refine isW ?_);refine Af rfl 34 _ _ rfl STResult (C+1) rfl (Au 1 0) rfl hR8 rfl rfl rfl ?_;intro w9 hR9 hx9))
  exact bodyPost_ret (results_cell rfl STResult (g:=C+1) rfl hR9 rfl) rfl ⟨⟨s,false,⟨1,0,[]⟩,.slice none 0 0,rfl,(hM1.e0 hx8).keep hx9 (fun e=>Blk.ne (hM1.e0 hx8).blk hR8 (by decide) e) (Apart.one hR8 (by decide)),HF.out,CJ.nil _ _,(hst.m0 hx8).fresh hx9 (fun q e=>by have:=HC.out;have:q=C+1:=e;omega)⟩⟩
 | true =>
  have HGN:=Lib.hid (show ¬ (decide (64 < c.d.reports.length) || decide (c.d.node.seq < 1) || decide (Fsm.BU < c.d.node.seq))=true by rw [d1];show ¬ (decide (c.node.seq < 1) || decide (Fsm.BU < c.node.seq))=true;unfold Fsm.BU;simp [inB] at q2 ⊢;omega)
  have Q2:=Lib.hid q2
  clear q2 d1
  rcases AV (fun x:NodD=>x.id == c.node.id) s.nodes with ⟨hi,hf,_⟩|⟨i,x,hi,hxi,hp,hf,hfirst⟩
  ·have hkn:Bo s.data c.node=(0,31):=by unfold Bo;rw [show Fsm.nodeAt s.data c.node.id=none from hf]
   have HF:=Lib.hid (show Fsm.Ec s.data c.d=(s.data,⟨31,0,[]⟩) by unfold Fsm.Ec;rw [if_neg HGN.out,show Fsm.nodeAt s.data c.d.node.id=none from hf];rfl)
   clear hi hf
   have HK1:=Lib.hid (show (Bo s.data c.node).1=0 by rw [hkn])
   have HK2:=Lib.hid (show (Bo s.data c.node).2=31 by rw [hkn])
   clear hkn
   obtain ⟨hxW,hCW,hRW⟩:=cmd0 w c
   have hzW:=hxW.size
   have hMW:=hM.e0 hxW
   go_enter Tryz.func53,Tryz.ntmps53
   go_upto_region 1 with (first|go_skip|go_guarded)
   generalize hC:w.heap.size=C at hCW hRW hzW ⊢
   have HC:=Lib.hid hC
   clear hC
   generalize ((w.alloc (.cells c.arr 51)).alloc (.cells #[.int .i64 0,.int .i64 0,.slice none 0 0] 34))=W at hxW hCW hRW hzW hMW ⊢
   have c18:W.cell? ⟨C,18,none⟩=some (.slice c.RA c.rn c.rc):=hCW.cell 18
   have c17:W.cell? ⟨C,17,none⟩=some (.int .i64 c.node.seq):=hCW.cell 17
   go_upto_region 3 with (first|go_skip|go_guarded|(go_at_call 33;(with_reducible refine (BR c.node.seq 1 1099511627776 W).mono ?_);rintro e w1 ⟨rfl,hx1⟩;(rw [Q2.out])))
   clear c18 c17 e1
   have hM1:=hMW.e0 hx1
   have hR1:=hRW.e0 hx1
   have hC1:=hCW.e0 hx1
   have hcn:∀ j u,c.EN.toList[j]? = some u→w1.cell? ⟨C,10+j,none⟩=some u:=fun j u hu=>by rw [hC1.cell];exact c.Ha j u hu
   go_upto_region 5 with (first|go_skip|((with_reducible refine isW ?_);refine Ad rfl 43 _ rfl Bz C 10 rfl c.EN hcn rfl ?_)|(go_at_call 71;(with_reducible refine (Gx base b s false c.node w1 hM1 hN).mono ?_);rintro e w3 ⟨rfl,hx3⟩;(rw [HK1.out,HK2.out])))
   have hM3:=hM1.e0 hx3
   have hR3:=hR1.e0 hx3
   have hst:=Step.of0 (b:=b) (s:=s) ((hxW.tr hx1).tr hx3)
   go_wp2_with (first|go_skip|go_guarded|(go_at_call 31;(with_reducible refine (mNo 31 w3).mono ?_);rintro e w8 ⟨rfl,hx8⟩;have hR8:=hR3.e0 hx8)|((with_reducible refine isW ?_);refine Af rfl 34 _ _ rfl STResult (C+1) rfl (Au 31 0) rfl hR8 rfl rfl rfl ?_;intro w9 hR9 hx9))
   exact bodyPost_ret (results_cell rfl STResult (g:=C+1) rfl hR9 rfl) rfl ⟨⟨s,false,⟨31,0,[]⟩,.slice none 0 0,rfl,(hM3.e0 hx8).keep hx9 (fun e=>Blk.ne (hM3.e0 hx8).blk hR8 (by decide) e) (Apart.one hR8 (by decide)),HF.out,CJ.nil _ _,(hst.m0 hx8).fresh hx9 (fun q e=>by have:=HC.out;have:q=C+1:=e;omega)⟩⟩
  have hna:Fsm.nodeAt s.data c.node.id=some x:=hf
  have hna' : Fsm.nodeAt s.data c.d.node.id=some x:=hf
  have hid:x.id=c.node.id:=by simpa using hp
  obtain ⟨x0,⟨x1,x2⟩,x3,x4,x5,x6,x7⟩:=x
  change x0=_ at hid
  subst hid
  have HX:=Lib.hid hxi
  have HI:=Lib.hid hi
  have HFI:=Lib.hid hfirst
  have HP:=Lib.hid hp
  have hk0:(0:Int)≤(i:Int):=by omega
  have hk1:(i:Int) < s.nN:=by have:=hnl.out;have:=(List.getElem?_eq_some_iff.1 hxi).1;omega
  clear hf hi hxi hfirst hp
  cases hu:(!x3 || !(x6 == c.node.epoch)) with
  | true =>
   have hkn:Bo s.data c.node=(0,32):=by unfold Bo;rw [hna];simp only [];rw [hu];rfl
   have HF:=Lib.hid (show Fsm.Ec s.data c.d=(s.data,⟨32,0,[]⟩) by unfold Fsm.Ec;rw [if_neg HGN.out,hna'];simp only [];rw [if_pos (show (!x3 || !(x6 == c.d.node.epoch))=true from hu)];rfl)
   clear hna hna' hu
   have HK1:=Lib.hid (show (Bo s.data c.node).1=0 by rw [hkn])
   have HK2:=Lib.hid (show (Bo s.data c.node).2=32 by rw [hkn])
   clear hkn
   obtain ⟨hxW,hCW,hRW⟩:=cmd0 w c
   have hzW:=hxW.size
   have hMW:=hM.e0 hxW
   go_enter Tryz.func53,Tryz.ntmps53
   go_upto_region 1 with (first|go_skip|go_guarded)
   generalize hC:w.heap.size=C at hCW hRW hzW ⊢
   have HC:=Lib.hid hC
   clear hC
   generalize ((w.alloc (.cells c.arr 51)).alloc (.cells #[.int .i64 0,.int .i64 0,.slice none 0 0] 34))=W at hxW hCW hRW hzW hMW ⊢
   have c18:W.cell? ⟨C,18,none⟩=some (.slice c.RA c.rn c.rc):=hCW.cell 18
   have c17:W.cell? ⟨C,17,none⟩=some (.int .i64 c.node.seq):=hCW.cell 17
   go_upto_region 3 with (first|go_skip|go_guarded|(go_at_call 33;(with_reducible refine (BR c.node.seq 1 1099511627776 W).mono ?_);rintro e w1 ⟨rfl,hx1⟩;(rw [Q2.out])))
   clear c18 c17 e1
   have hM1:=hMW.e0 hx1
   have hR1:=hRW.e0 hx1
   have hC1:=hCW.e0 hx1
   have hcn:∀ j u,c.EN.toList[j]? = some u→w1.cell? ⟨C,10+j,none⟩=some u:=fun j u hu=>by rw [hC1.cell];exact c.Ha j u hu
   go_upto_region 5 with (first|go_skip|((with_reducible refine isW ?_);refine Ad rfl 43 _ rfl Bz C 10 rfl c.EN hcn rfl ?_)|(go_at_call 71;(with_reducible refine (Gx base b s false c.node w1 hM1 hN).mono ?_);rintro e w3 ⟨rfl,hx3⟩;(rw [HK1.out,HK2.out])))
   have hM3:=hM1.e0 hx3
   have hR3:=hR1.e0 hx3
   have hst:=Step.of0 (b:=b) (s:=s) ((hxW.tr hx1).tr hx3)
   go_wp2_with (first|go_skip|go_guarded|(go_at_call 31;(with_reducible refine (mNo 32 w3).mono ?_);rintro e w8 ⟨rfl,hx8⟩;have hR8:=hR3.e0 hx8)|((with_reducible refine isW ?_);refine Af rfl 34 _ _ rfl STResult (C+1) rfl (Au 32 0) rfl hR8 rfl rfl rfl ?_;intro w9 hR9 hx9))
   exact bodyPost_ret (results_cell rfl STResult (g:=C+1) rfl hR9 rfl) rfl ⟨⟨s,false,⟨32,0,[]⟩,.slice none 0 0,rfl,(hM3.e0 hx8).keep hx9 (fun e=>Blk.ne (hM3.e0 hx8).blk hR8 (by decide) e) (Apart.one hR8 (by decide)),HF.out,CJ.nil _ _,(hst.m0 hx8).fresh hx9 (fun q e=>by have:=HC.out;have:q=C+1:=e;omega)⟩⟩
  | false =>
   have hkn:Bo s.data c.node=((i:Int),0):=by unfold Bo;rw [hna];simp only [];rw [hu];exact congrArg (fun z=>(z,(0:Int))) HI.out
   have h36:x3=true∧x6=c.node.epoch:=by simpa using hu
   obtain ⟨h3,h6⟩:=h36
   subst h3
   subst h6
   have HUN:=Lib.hid (show ¬ (!true || !(c.node.epoch == c.d.node.epoch))=true by rw [show (!true || !(c.node.epoch == c.d.node.epoch))=false from hu];exact Bool.false_ne_true)
   have HNA:=Lib.hid hna'
   clear hna hna' hu
   have HK1:=Lib.hid (show (Bo s.data c.node).1=(i:Int) by rw [hkn])
   have HK2:=Lib.hid (show (Bo s.data c.node).2=0 by rw [hkn])
   clear hkn
   obtain ⟨hxW,hCW,hRW⟩:=cmd0 w c
   have hzW:=hxW.size
   have hMW:=hM.e0 hxW
   go_enter Tryz.func53,Tryz.ntmps53
   go_upto_region 1 with (first|go_skip|go_guarded)
   generalize hC:w.heap.size=C at hCW hRW hzW ⊢
   have HC:=Lib.hid hC
   clear hC
   generalize ((w.alloc (.cells c.arr 51)).alloc (.cells #[.int .i64 0,.int .i64 0,.slice none 0 0] 34))=W at hxW hCW hRW hzW hMW ⊢
   have c18:W.cell? ⟨C,18,none⟩=some (.slice c.RA c.rn c.rc):=hCW.cell 18
   have c17:W.cell? ⟨C,17,none⟩=some (.int .i64 c.node.seq):=hCW.cell 17
   go_upto_region 3 with (first|go_skip|go_guarded|(go_at_call 33;(with_reducible refine (BR c.node.seq 1 1099511627776 W).mono ?_);rintro e w1 ⟨rfl,hx1⟩;(rw [Q2.out])))
   clear c18 c17 e1
   have hM1:=hMW.e0 hx1
   have hR1:=hRW.e0 hx1
   have hC1:=hCW.e0 hx1
   have hcn:∀ j u,c.EN.toList[j]? = some u→w1.cell? ⟨C,10+j,none⟩=some u:=fun j u hu=>by rw [hC1.cell];exact c.Ha j u hu
   go_upto_region 6 with (first|go_skip|((with_reducible refine isW ?_);refine Ad rfl 43 _ rfl Bz C 10 rfl c.EN hcn rfl ?_)|(go_at_call 71;(with_reducible refine (Gx base b s false c.node w1 hM1 hN).mono ?_);rintro e w3 ⟨rfl,hx3⟩;(rw [HK1.out,HK2.out])))
   have hM3:=hM1.e0 hx3
   have hR3:=hR1.e0 hx3
   have hC3:=hC1.e0 hx3
   have hx03:=(hxW.tr hx1).tr hx3
   clear hcn hM1 hR1 hC1 hMW hRW hCW hx3 hx1 hxW
   obtain ⟨g,cur,hAe,hob,hgb,_,hce,_⟩:=hM3.own.IY HX.out
   change s.AN=_ at hAe
   have m4:w3.cell? ⟨b,4,none⟩=some (.slice (some ⟨g,0,none⟩) s.nN s.cN):=by rw [← hAe];exact hM3.blk.cell 4
   have k7:w3.cell? ⟨g,i*8+7,none⟩=some (.int .i64 x7):=hce 7 _ rfl
   have c17:w3.cell? ⟨C,17,none⟩=some (.int .i64 c.node.seq):=hC3.cell 17
   have HA:=Lib.hid hAe
   clear hAe hce
   cases hs7:decide (c.node.seq≤x7) with
   | true =>
    have HF:=Lib.hid (show Fsm.Ec s.data c.d=(s.data,⟨33,0,[]⟩) by unfold Fsm.Ec;rw [if_neg HGN.out,HNA.out];simp only [];rw [if_neg HUN.out,if_pos (show c.d.node.seq≤x7 from of_decide_eq_true (show decide (c.node.seq≤x7)=true from hs7))];rfl)
    go_quiet (fail)
    have hdq:=(Ext.refl Nothing w3).drewN nq
    generalize w3.drewN nq=wq at hdq ⊢
    go_upto_region 7 with (first|go_skip)
    have hMq:=hM3.e0 hdq
    have hRq:=hR3.e0 hdq
    have hst:=Step.of0 (b:=b) (s:=s) (hx03.tr hdq)
    clear m4 k7 c17
    go_wp2_with (first|go_skip|go_guarded|(go_at_call 31;(with_reducible refine (mNo 33 wq).mono ?_);rintro e w8 ⟨rfl,hx8⟩;have hR8:=hRq.e0 hx8)|((with_reducible refine isW ?_);refine Af rfl 34 _ _ rfl STResult (C+1) rfl (Au 33 0) rfl hR8 rfl rfl rfl ?_;intro w9 hR9 hx9))
    exact bodyPost_ret (results_cell rfl STResult (g:=C+1) rfl hR9 rfl) rfl ⟨⟨s,false,⟨33,0,[]⟩,.slice none 0 0,rfl,(hMq.e0 hx8).keep hx9 (fun e=>Blk.ne (hMq.e0 hx8).blk hR8 (by decide) e) (Apart.one hR8 (by decide)),HF.out,CJ.nil _ _,(hst.m0 hx8).fresh hx9 (fun q e=>by have:=HC.out;have:q=C+1:=e;omega)⟩⟩
   | false =>
    have HS7:=Lib.hid (show ¬ c.d.node.seq≤x7 by intro h9;rw [decide_eq_true (show c.node.seq≤x7 from h9)] at hs7;exact Bool.false_ne_true hs7.symm)
    go_quiet (fail)
    have hdq:=(Ext.refl Nothing w3).drewN nq
    generalize w3.drewN nq=wq at hdq ⊢
    go_upto_region 8 with (first|go_skip)
    have hMq:=hM3.e0 hdq
    have hRq:=hR3.e0 hdq
    have hCq:=hC3.e0 hdq
    have hxq:=hx03.tr hdq
    have m4:=hdq.c0 m4
    have c17:=hdq.c0 c17
    have hgq:=hgb.e0 hdq
    clear k7 hgb hM3 hR3 hC3 hx03 hdq
    have hbg:¬ (b=g):=fun e=>Blk.ne hMq.blk hgq (by decide) e
    have hCg:¬ (C=g):=fun e=>Blk.ne hCq hgq (by decide) e
    have hd:Ext Nothing wq wq.drew:=(Ext.refl _ _).drew
    refine zS (S:=fun W'=>Ext (fun q=>q=g) wq W') (by kernel_rfl) ?_
    have hS:=hd.any (S:=fun q=>q=g)
    generalize wq.drew=Wd at hd hS ⊢
    refine zV 0 (.pointer (some ⟨b,0,none⟩)) rfl (by kernel_rfl) hS (fun _ _ _ h=>h) (fun W' hS'=>by go_simp) ?_
    refine zV 1 (.pointer (some ⟨b,0,none⟩)) rfl (by kernel_rfl) hS (fun _ _ _ h=>h) (fun W' hS'=>by go_simp) ?_
    refine zV 2 (.pointer (some ⟨b,0,none⟩)) rfl (by kernel_rfl) hS (fun _ _ _ h=>h) (fun W' hS'=>by go_simp) ?_
    refine zV 3 (.pointer (some ⟨b,4,none⟩)) rfl (by kernel_rfl) hS (fun _ _ _ h=>h) (fun W' hS'=>by go_simp) ?_
    refine zV 4 (.slice (some ⟨g,0,none⟩) s.nN s.cN) rfl (by kernel_rfl) hS (fun _ _ _ h=>h) (fun W' hS'=>by have q:=hS'.cell m4 hbg;go_simp) ?_
    refine zV 5 (.int .i64 (i:Int)) rfl (by kernel_rfl) hS (fun _ _ _ h=>h) (fun W' hS'=>by go_simp) ?_
    refine zV 6 (.pointer (some ⟨C,10,none⟩)) rfl (by kernel_rfl) hS (fun _ _ _ h=>h) (fun W' hS'=>by go_simp) ?_
    refine zV 7 (.pointer (some ⟨C,17,none⟩)) rfl (by kernel_rfl) hS (fun _ _ _ h=>h) (fun W' hS'=>by go_simp) ?_
    refine zV 8 (.int .i64 c.node.seq) rfl (by kernel_rfl) hS (fun _ _ _ h=>h) (fun W' hS'=>by have q:=hS'.cell c17 hCg;go_simp) ?_
    refine zV 9 (.pointer (some ⟨g,i*8,none⟩)) rfl (by kernel_rfl) hS (fun _ _ _ h=>h) (fun W' hS'=>by go_simp) ?_
    refine zV 10 (.pointer (some ⟨g,i*8+7,none⟩)) rfl (by kernel_rfl) hS (fun _ _ _ h=>h) (fun W' hS'=>by go_simp) ?_
    (try simp only [Act.put,zA,zB,zC,zD,zE,zF])
    refine zO 11 (by kernel_rfl) ?_
    have hMd:=hMq.e0 hd
    obtain ⟨g2,cur2,hAe2,_,hgb2,_,hce2,hput2⟩:=hMd.own.IY HX.out
    have hgg:g=g2:=by have h7:s.AN=some ⟨g2,0,none⟩:=hAe2;rw [HA.out] at h7;injection h7 with h7;injection h7
    subst hgg
    clear hAe2
    have k4:Wd.cell? ⟨g,i*8+7,none⟩=some (.int .i64 x7):=hce2 7 _ rfl
    have f4:Wd.frozen? ⟨g,i*8+7,none⟩=false:=hgb2.frozen _
    have hs4:Ext (fun q=>q=g) Wd (Wd.setCell ⟨g,i*8+7,none⟩ (.int .i64 c.node.seq)):=Ext.set1 _ _ _ _
    refine AC (w':=(Wd.setCell ⟨g,i*8+7,none⟩ (.int .i64 c.node.seq))) rfl (by rfl) (by go_simp) ⟨hS.trans hs4 (fun q hq e=>e),?_⟩
    (try simp only [Act.put,zA,zB,zC,zD,zE,zF])
    refine wpAnyH_done (by kernel_rfl) ?_ _
    (try simp only [Act.put,zA,zB,zC,zD,zE,zF])
    have hO8:Aw base (Wd.setCell ⟨g,i*8+7,none⟩ (.int .i64 c.node.seq)) ({ s with nodes:=s.nodes.set i ⟨c.node.id,⟨x1,x2⟩,true,x4,x5,c.node.epoch,c.node.seq⟩ }:Aa):=hput2 7 (.int .i64 c.node.seq) (⟨c.node.id,⟨x1,x2⟩,true,x4,x5,c.node.epoch,c.node.seq⟩ : NodD) (by decide) rfl
    have hM8:Az base (Wd.setCell ⟨g,i*8+7,none⟩ (.int .i64 c.node.seq)) b ({ s with nodes:=s.nodes.set i ⟨c.node.id,⟨x1,x2⟩,true,x4,x5,c.node.epoch,c.node.seq⟩ }:Aa) false:=⟨hMd.blk.ext hs4 hbg,hO8,hMd.lo⟩
    have hC8:=(hCq.e0 hd).ext hs4 hCg
    have hR8w:=(hRq.e0 hd).ext hs4 (fun e=>Blk.ne hRq hgq (by decide) e)
    have hst8:Step w (Wd.setCell ⟨g,i*8+7,none⟩ (.int .i64 c.node.seq)) b s ({ s with nodes:=s.nodes.set i ⟨c.node.id,⟨x1,x2⟩,true,x4,x5,c.node.epoch,c.node.seq⟩ }:Aa):=(Step.of0 (hxq.tr hd)).cell (s2:=({ s with nodes:=s.nodes.set i ⟨c.node.id,⟨x1,x2⟩,true,x4,x5,c.node.epoch,c.node.seq⟩ }:Aa)) (MW.oN (s:=s) hob) (fun q hq=>hq) _
    have HF:=Lib.hid (show Fsm.Ec s.data c.d=(let z:=c.reports.foldl (Fsm.report (⟨c.node.id,⟨x1,x2⟩,true,x4,x5,c.node.epoch,c.node.seq⟩ : NodD)) (({ s with nodes:=s.nodes.set i ⟨c.node.id,⟨x1,x2⟩,true,x4,x5,c.node.epoch,c.node.seq⟩ }:Aa).data,false);let s2:=Fsm.looked z.1;let s3:=if z.2 then Fsm.came s2 else s2;(s3,⟨0,c.node.epoch,s3.allocs.filter (fun a=>a.node == c.node.id && !Bv a)⟩)) by rw [Fsm.KA (n:=(⟨c.node.id,⟨x1,x2⟩,true,x4,x5,c.node.epoch,c.node.seq⟩ : NodD)) (m:=c.node) rfl rfl];unfold Fsm.Ec;rw [if_neg HGN.out,HNA.out];simp only [];rw [if_neg HUN.out,if_neg HS7.out];rw [show Fsm.Ap (fun n=>n.id == c.d.node.id) (fun n=>{ n with seq:=c.d.node.seq }) s.data.nodes=_ from Fsm.BF (f:=fun n:NodD=>{ n with seq:=c.d.node.seq }) HX.out HP.out HFI.out];rfl)
    have hW8:Fsm.Wf ({ s with nodes:=s.nodes.set i ⟨c.node.id,⟨x1,x2⟩,true,x4,x5,c.node.epoch,c.node.seq⟩ }:Aa).data:=by have h9:=Fsm.Ep hw (fun n=>n.id == c.d.node.id) (fun n=>{ n with seq:=c.d.node.seq }) (fun _=>rfl);rw [show Fsm.Ap (fun n=>n.id == c.d.node.id) (fun n=>{ n with seq:=c.d.node.seq }) s.data.nodes=_ from Fsm.BF (f:=fun n:NodD=>{ n with seq:=c.d.node.seq }) HX.out HP.out HFI.out] at h9;exact h9
    have hi8:(s.nodes.set i (⟨c.node.id,⟨x1,x2⟩,true,x4,x5,c.node.epoch,c.node.seq⟩ : NodD))[i]? = some (⟨c.node.id,⟨x1,x2⟩,true,x4,x5,c.node.epoch,c.node.seq⟩ : NodD):=by rw [List.getElem?_set];simp;exact (List.getElem?_eq_some_iff.1 HX.out).1
    obtain ⟨g8,cur8,hAe8,_,hgb8,_,hce8,_⟩:=hM8.own.IY hi8
    have hgg:g=g8:=by have h7:s.AN=some ⟨g8,0,none⟩:=hAe8;rw [HA.out] at h7;injection h7 with h7;injection h7
    subst hgg
    clear k4 f4 hs4 hce2 hput2 hO8 hS m4 c17 hd hAe8 hMd
    have m4:(Wd.setCell ⟨g,i*8+7,none⟩ (.int .i64 c.node.seq)).cell? ⟨b,4,none⟩=some (.slice (some ⟨g,0,none⟩) s.nN s.cN):=by rw [← HA.out];exact hM8.blk.cell 4
    have hce8:∀ j u,(#[.int .i64 c.node.id,.int .i64 x1,.int .i64 x2,.bool true,.bool x4,.int .i64 x5,.int .i64 c.node.epoch,.int .i64 c.node.seq]:Array Value).toList[j]? = some u→(Wd.setCell ⟨g,i*8+7,none⟩ (.int .i64 c.node.seq)).cell? ⟨g,i*8+j,none⟩=some u:=hce8
    generalize (Wd.setCell ⟨g,i*8+7,none⟩ (.int .i64 c.node.seq))=w8 at hM8 hC8 hR8w hst8 m4 hce8 ⊢
    have hz8:=hst8.size
    go_upto_region 10 with (first|go_skip|go_guarded|((with_reducible refine isW ?_);refine Ad rfl 43 _ rfl Bz g (i*8) rfl #[.int .i64 c.node.id,.int .i64 x1,.int .i64 x2,.bool true,.bool x4,.int .i64 x5,.int .i64 c.node.epoch,.int .i64 c.node.seq] hce8 rfl ?_))
    have hxn:Ext Nothing w8 (w8.alloc (.cells #[.int .i64 c.node.id,.int .i64 x1,.int .i64 x2,.bool true,.bool x4,.int .i64 x5,.int .i64 c.node.epoch,.int .i64 c.node.seq] 43)):=Ext.Ay
    have hN9:Blk (w8.alloc (.cells #[.int .i64 c.node.id,.int .i64 x1,.int .i64 x2,.bool true,.bool x4,.int .i64 x5,.int .i64 c.node.epoch,.int .i64 c.node.seq] 43)) w8.heap.size 43 #[.int .i64 c.node.id,.int .i64 x1,.int .i64 x2,.bool true,.bool x4,.int .i64 x5,.int .i64 c.node.epoch,.int .i64 c.node.seq]:=Blk.new _ _ _
    have hM9:=hM8.e0 hxn
    have hnN:¬ MW ({ s with nodes:=s.nodes.set i ⟨c.node.id,⟨x1,x2⟩,true,x4,x5,c.node.epoch,c.node.seq⟩ }:Aa) b w8.heap.size:=fun e=>by have:=hM8.FL e;omega
    have hC9:=hC8.e0 hxn
    have hR9w:=hR8w.e0 hxn
    have hst9:=hst8.m0 hxn
    have hzn:=hxn.size
    clear m4 hce8 hgb8 hxn
    generalize w8.heap.size=N at hN9 hnN hz8 hzn ⊢
    generalize (w8.alloc (.cells #[.int .i64 c.node.id,.int .i64 x1,.int .i64 x2,.bool true,.bool x4,.int .i64 x5,.int .i64 c.node.epoch,.int .i64 c.node.seq] 43))=w9 at hN9 hM9 hC9 hR9w hst9 hzn ⊢
    have hJ9:({ s with nodes:=s.nodes.set i ⟨c.node.id,⟨x1,x2⟩,true,x4,x5,c.node.epoch,c.node.seq⟩ }:Aa).jobs.length≤1048576:=hJ
    have hA9:({ s with nodes:=s.nodes.set i ⟨c.node.id,⟨x1,x2⟩,true,x4,x5,c.node.epoch,c.node.seq⟩ }:Aa).allocs.length≤1048576:=hA
    have hD9:({ s with nodes:=s.nodes.set i ⟨c.node.id,⟨x1,x2⟩,true,x4,x5,c.node.epoch,c.node.seq⟩ }:Aa).deploys.length≤1048576:=hDl
    have hS9:({ s with nodes:=s.nodes.set i ⟨c.node.id,⟨x1,x2⟩,true,x4,x5,c.node.epoch,c.node.seq⟩ }:Aa).stable.length≤33554432:=hSt
    have hE9:({ s with nodes:=s.nodes.set i ⟨c.node.id,⟨x1,x2⟩,true,x4,x5,c.node.epoch,c.node.seq⟩ }:Aa).evals.length≤16777216:=hE
    have hN9l:(({ s with nodes:=s.nodes.set i ⟨c.node.id,⟨x1,x2⟩,true,x4,x5,c.node.epoch,c.node.seq⟩ }:Aa).nodes).length=(({ s with nodes:=s.nodes.set i ⟨c.node.id,⟨x1,x2⟩,true,x4,x5,c.node.epoch,c.node.seq⟩ }:Aa).nodes).length:=rfl
    have hc9:=hc.keep (hst9.ext.mono (fun q _ e=>(hM.mw e).1))
    have hnR:¬ MW ({ s with nodes:=s.nodes.set i ⟨c.node.id,⟨x1,x2⟩,true,x4,x5,c.node.epoch,c.node.seq⟩ }:Aa) b (C+1):=hM9.Cn hR9w (by decide)
    have hnC:¬ MW ({ s with nodes:=s.nodes.set i ⟨c.node.id,⟨x1,x2⟩,true,x4,x5,c.node.epoch,c.node.seq⟩ }:Aa) b C:=hM9.Cn hC9 (by decide)
    have c18:w9.cell? ⟨C,18,none⟩=some (.slice c.RA c.rn c.rc):=hC9.cell 18
    have hrn:c.rn≤1048576:=hc.rl
    clear hM8 hMq hRq hCq hxq hgq hJ hA hDl hSt hE HI HX HFI HP HK1 HK2 HS7 HUN HNA HGN Q2 hst8 hC8 hR8w hi8
    generalize ({ s with nodes:=s.nodes.set i ⟨c.node.id,⟨x1,x2⟩,true,x4,x5,c.node.epoch,c.node.seq⟩ }:Aa)=s0 at hM9 hst9 hW8 hnN hnR hnC HF hJ9 hA9 hD9 hS9 hE9 hN9l
    clear hN9l
    go_wp2
    clear c18
    go_loopw [74] (fun iv wr=>∃ t:Nat,t≤c.rn∧iv=.int .i64 t∧∃ s1 cm,Az base wr b s1 cm∧Hid ((c.reports.take t).foldl (Fsm.report (⟨c.node.id,⟨x1,x2⟩,true,x4,x5,c.node.epoch,c.node.seq⟩ : NodD)) (s0.data,false)=(s1.data,cm))∧Hid (s1.jobs=s0.jobs∧s1.stable=s0.stable∧s1.allocs.length=s0.allocs.length∧s1.deploys.length=s0.deploys.length∧s1.evals.length≤s0.evals.length+t)∧Fsm.Wf s1.data∧Step w9 wr b s0 s1) (fun iv _=>c.rn - (intOf iv).toNat)
    case atStart=>exact ⟨0,Nat.zero_le _,rfl,s0,false,hM9,Lib.hid rfl,Lib.hid ⟨rfl,rfl,rfl,rfl,Nat.le_refl _⟩,hW8,Step.refl _ _ _⟩
    case round =>
     obtain ⟨t,ht,rfl,s1,cm,hMr,hD,hL,hW,hx⟩:=hrel
     have hCr:=hC9.step hx hnC
     have hRr:=hR9w.step hx hnR
     have hNr:=hN9.step hx hnN
     by_cases hlt:t < c.rn
     ·have hcr:=hc9.keep (hx.ext.mono (fun q _ e=>(hM9.mw e).1))
      obtain ⟨hjn,a,off,hRe,hrce⟩:=hcr.r.get (Ext.refl Nothing wr) hlt
      have hst:=Ex (Fsm.report (⟨c.node.id,⟨x1,x2⟩,true,x4,x5,c.node.epoch,c.node.seq⟩ : NodD)) (s0.data,false) c.reports t hjn
      rw [hD.out] at hst
      have hrep:∀ j u,(Fb (c.reports[t]'hjn))[j]? = some u→wr.cell? ⟨a,off+t*2+j,none⟩=some u:=hrce
      generalize (c.reports[t]'hjn)=r at hrep hst
      obtain ⟨r0,r1⟩:=r
      rw [hRe]
      have hrep:∀ j u,(#[Value.int .i64 r0,.int .i64 r1]:Array Value).toList[j]? = some u→wr.cell? ⟨a,off+t*2+j,none⟩=some u:=hrep
      have hk0:(0:Int)≤(t:Int):=by omega
      have hk1:(t:Int) < c.rn:=by omega
      have HT:=Lib.hid hlt
      have HRE:=Lib.hid hRe
      have HS:=Lib.hid hst
      clear hRe hst hrce hcr hlt
      have hxq:Ext Nothing wr (wr.alloc (.cells #[.int .i64 r0,.int .i64 r1] 97)):=Ext.Ay
      have hQ:Blk (wr.alloc (.cells #[.int .i64 r0,.int .i64 r1] 97)) wr.heap.size 97 #[.int .i64 r0,.int .i64 r1]:=Blk.new _ _ _
      have hMz:=hMr.e0 hxq
      have hNz:=hNr.e0 hxq
      have hxz:=hx.m0 hxq
      have hzz:=hxz.size
      go_upto_region 13 with (first|go_skip|go_guarded|((with_reducible refine isW ?_);refine Ad rfl 97 _ rfl KD a (off+t*2) rfl #[.int .i64 r0,.int .i64 r1] hrep rfl ?_))
      generalize wr.heap.size=Q at hQ ⊢
      generalize (wr.alloc (.cells #[.int .i64 r0,.int .i64 r1] 97))=wz at hQ hMz hNz hxz hzz ⊢
      clear hxq hMr hNr hCr hRr hx hD hrep
      have hLL:=hL.out
      have q4:base≤wz.heap.size:=by omega
      have q1:s1.jobs.length≤1048576:=by rw [hLL.1];exact hJ9
      have q2:s1.allocs.length≤1048576:=by rw [hLL.2.2.1];exact hA9
      have q3:s1.deploys.length≤1048576:=by rw [hLL.2.2.2.1];exact hD9
      have q5:s1.evals.length≤33554432:=by have:=hLL.2.2.2.2;have:=HT.out;omega
      clear hLL
      go_wp2_with (first|go_skip|go_guarded|((with_reducible refine isW ?_);refine Ae rfl 43 _ rfl Bz N rfl #[.int .i64 c.node.id,.int .i64 x1,.int .i64 x2,.bool true,.bool x4,.int .i64 x5,.int .i64 c.node.epoch,.int .i64 c.node.seq] hNz rfl ?_)|((with_reducible refine isW ?_);refine Ae rfl 97 _ rfl KD Q rfl #[.int .i64 r0,.int .i64 r1] hQ rfl ?_)|(go_at_call 72;(with_reducible refine (Qa base b s1 cm (⟨c.node.id,⟨x1,x2⟩,true,x4,x5,c.node.epoch,c.node.seq⟩ : NodD) r0 r1 wz hMz q4 q1 q2 q3 q5 hW).mono ?_);rintro e wy ⟨⟨s2,cm2,rfl,hMy,hRy,hNear,hxy⟩⟩))
      go_roundw
      case rel=>(try rw [← HRE.out]);exact ⟨t+1,HT.out,by go_num,s2,cm2,hMy,Lib.hid (HS.out.trans hRy),Lib.hid (by have hLL:=hL.out;exact ⟨hNear.j.trans hLL.1,hNear.t.trans hLL.2.1,hNear.a.trans hLL.2.2.1,hNear.d.trans hLL.2.2.2.1,by have:=hNear.e;have:=hLL.2.2.2.2;omega⟩),(by have h9:=Fsm.JH (⟨c.node.id,⟨x1,x2⟩,true,x4,x5,c.node.epoch,c.node.seq⟩ : NodD) (z:=(s1.data,cm)) hW (r0,r1);rw [hRy] at h9;exact h9),hxz.trans hxy⟩
      case measure=>have:=HT.out;simp [intOf];omega
     have hnl2:¬ ((t:Int) < c.rn):=by omega
     have HZ:=Lib.hid (show c.reports.foldl (Fsm.report (⟨c.node.id,⟨x1,x2⟩,true,x4,x5,c.node.epoch,c.node.seq⟩ : NodD)) (s0.data,false)=(s1.data,cm) by rw [← hD.out,List.take_of_length_le (by have:=hrl.out;omega)])
     have hLL:=hL.out
     have hzx:=hx.size
     have q4:base≤wr.heap.size:=by omega
     have q1:s1.jobs.length≤1048576:=by rw [hLL.1];exact hJ9
     have q2:s1.allocs.length≤1048576:=by rw [hLL.2.2.1];exact hA9
     have q3:s1.deploys.length≤1048576:=by rw [hLL.2.2.2.1];exact hD9
     have q5:s1.stable.length≤33554432:=by rw [hLL.2.1];exact hS9
     clear hLL hD hL
     go_upto_region 16 with (first|go_skip|go_guarded|(go_at_call 73;(with_reducible refine (OI base b s1 cm wr hMr q4 q1 q2 q3 q5 hW).mono ?_);rintro e wc ⟨dL,AT,nT,cT,lT,rfl,hMc,hDc,_,_,hxc⟩))
     have hnC1:¬ MW s1 b C:=hx.not hnC hC9.lt
     have hnR1:¬ MW s1 b (C+1):=hx.not hnR hR9w.lt
     have hnN1:¬ MW s1 b N:=hx.not hnN hN9.lt
     have hRc:=hRr.step hxc hnR1
     have hNc:=hNr.step hxc hnN1
     have hst:Step w wc b s ({ s1 with deploys:=dL,AS:=AT,nS:=nT,cS:=cT,stable:=lT }:Aa):=(hst9.trans hx).trans hxc
     have HAL:=Lib.hid (show ({ s1 with deploys:=dL,AS:=AT,nS:=nT,cS:=cT,stable:=lT }:Aa).allocs.length≤1048576 from q2)
     have HF2:=Lib.hid (show Fsm.Ec s.data c.d=((if cm then Fsm.came ({ s1 with deploys:=dL,AS:=AT,nS:=nT,cS:=cT,stable:=lT }:Aa).data else ({ s1 with deploys:=dL,AS:=AT,nS:=nT,cS:=cT,stable:=lT }:Aa).data),⟨0,c.node.epoch,({ s1 with deploys:=dL,AS:=AT,nS:=nT,cS:=cT,stable:=lT }:Aa).allocs.filter (fun a=>a.node == c.node.id && !Bv a)⟩) by rw [HF.out,HZ.out];simp only [];rw [← hDc];cases cm <;> rfl)
     clear HF hDc HZ hxc hx hCr hRr hNr hMr hc9 hW8 hst9 hM9 hC9 hR9w hN9 hW q1 q2 q3 q5 hnN1 hnC1 hnR1
     have hMc:Az base wc b ({ s1 with deploys:=dL,AS:=AT,nS:=nT,cS:=cT,stable:=lT }:Aa) cm:=hMc
     generalize ({ s1 with deploys:=dL,AS:=AT,nS:=nT,cS:=cT,stable:=lT }:Aa)=s6 at hMc hst HF2 HAL
     have n6:wc.cell? ⟨N,6,none⟩=some (.int .i64 c.node.epoch):=hNc.cell 6
     have m5a:=hMc.blk.cell 5
     have h6A:s6.nA=s6.allocs.length:=hMc.own.al
     have H6A:=Lib.hid h6A
     have hn6:s6.nA≤1048576:=by have:=HAL.out;omega
     clear h6A
     have hzc:=hst.size
     have hRlt:C+1 < wc.heap.size:=hRc.lt
     have hbc:base≤wc.heap.size:=by omega
     have hx8:Ext Nothing wc (wc.alloc (.cells #[.int .i64 0,.int .i64 c.node.epoch,.slice none 0 0] 34)):=Ext.Ay
     have hO8:Blk (wc.alloc (.cells #[.int .i64 0,.int .i64 c.node.epoch,.slice none 0 0] 34)) wc.heap.size 34 #[.int .i64 0,.int .i64 c.node.epoch,.slice none 0 0]:=Blk.new _ _ _
     have hM8:=hMc.e0 hx8
     have m5:(wc.alloc (.cells #[.int .i64 0,.int .i64 c.node.epoch,.slice none 0 0] 34)).cell? ⟨b,5,none⟩=some (.slice s6.AA s6.nA s6.cA):=hM8.blk.cell 5
     clear m5a
     go_wp2
     clear m5 n6
     have hs7:=hMc.own.slA
     generalize (wc.alloc (.cells #[.int .i64 0,.int .i64 c.node.epoch,.slice none 0 0] 34))=w8 at hx8 hO8 ⊢
     clear hM8
     go_loopw [94] (fun ki wr=>∃ t:Nat,t≤s6.nA∧ki=.int .i64 t∧∃ (out:List Ac) (AO:Option Addr) (co:Nat),Hid (out=(s6.allocs.take t).filter (fun a=>a.node == c.node.id && !Bv a)∧out.length≤t)∧wr.ownsRow wc.heap.size 55 11 (.slice AO out.length co) out.length (out.flatMap Ac.cells)∧Blk wr wc.heap.size 34 #[.int .i64 0,.int .i64 c.node.epoch,.slice AO out.length co]∧Ext Nothing wc wr) (fun ki _=>s6.nA - (intOf ki).toNat)
     case atStart=>exact ⟨0,Nat.zero_le _,rfl,[],none,0,Lib.hid ⟨rfl,Nat.le_refl _⟩,World.ownsRow_nil _ _ _ _,hO8,hx8⟩
     case round =>
      obtain ⟨t,ht,rfl,out,AO,co,hout,hown,hOr,hx⟩:=hrel
      clear hO8 hx8
      have hNr:=hNc.e0 hx
      have hzO:wc.heap.size < wr.heap.size:=hOr.lt
      by_cases hlt:t < s6.nA
      ·obtain ⟨hjn,a,off,hAe,hce⟩:=hs7.get hx hlt
       have hnx:s6.allocs.take (t+1)=s6.allocs.take t ++ [s6.allocs[t]]:=by rw [List.take_add_one,List.getElem?_eq_getElem hjn];rfl
       have hce:∀ j u,(Ac.cells s6.allocs[t])[j]? = some u→wr.cell? ⟨a,off+t*11+j,none⟩=some u:=hce
       generalize s6.allocs[t]=y at hce hnx
       obtain ⟨y0,y1,y2,y3,y4,y5,y6,⟨y7,y8⟩,y9,y10⟩:=y
       have hAe2:s6.AA=some ⟨a,off,none⟩:=hAe
       rw [hAe2]
       have HA:=Lib.hid hAe2
       have HT:=Lib.hid hlt
       have HNX:=Lib.hid hnx
       have hk0:(0:Int)≤(t:Int):=by omega
       have hk1:(t:Int) < s6.nA:=by omega
       clear hAe hAe2 hnx hlt
       have hce:∀ j u,(#[.int .i64 y0,.int .i64 y1,.int .i64 y2,.int .i64 y3,.int .i64 y4,.int .i64 y5,.int .i64 y6,.int .i64 y7,.int .i64 y8,.bool y9,.int .i64 y10]:Array Value).toList[j]? = some u→wr.cell? ⟨a,off+t*11+j,none⟩=some u:=hce
       have hxq:Ext Nothing wr (wr.alloc (.cells #[.int .i64 y0,.int .i64 y1,.int .i64 y2,.int .i64 y3,.int .i64 y4,.int .i64 y5,.int .i64 y6,.int .i64 y7,.int .i64 y8,.bool y9,.int .i64 y10] 55)):=Ext.Ay
       have hQ:Blk (wr.alloc (.cells #[.int .i64 y0,.int .i64 y1,.int .i64 y2,.int .i64 y3,.int .i64 y4,.int .i64 y5,.int .i64 y6,.int .i64 y7,.int .i64 y8,.bool y9,.int .i64 y10] 55)) wr.heap.size 55 #[.int .i64 y0,.int .i64 y1,.int .i64 y2,.int .i64 y3,.int .i64 y4,.int .i64 y5,.int .i64 y6,.int .i64 y7,.int .i64 y8,.bool y9,.int .i64 y10]:=Blk.new _ _ _
       have hNq:=hNr.e0 hxq
       have hOq:=hOr.e0 hxq
       have hxz:=hx.tr hxq
       have hownq:=Am hown hxq (fun _ _ e=>e)
       have hzq:=hxq.size
       go_upto_region 20 with (first|go_skip|go_guarded|((with_reducible refine isW ?_);refine Ad rfl 55 _ rfl Ba a (off+t*11) rfl #[.int .i64 y0,.int .i64 y1,.int .i64 y2,.int .i64 y3,.int .i64 y4,.int .i64 y5,.int .i64 y6,.int .i64 y7,.int .i64 y8,.bool y9,.int .i64 y10] hce rfl ?_))
       generalize wr.heap.size=Q at hQ hzO hzq ⊢
       generalize (wr.alloc (.cells #[.int .i64 y0,.int .i64 y1,.int .i64 y2,.int .i64 y3,.int .i64 y4,.int .i64 y5,.int .i64 y6,.int .i64 y7,.int .i64 y8,.bool y9,.int .i64 y10] 55))=wq at hQ hNq hOq hxz hownq hzq ⊢
       clear hxq hce hNr hOr hown hx
       have f0:wq.cell? ⟨Q,0,none⟩=some (.int .i64 y0):=hQ.cell 0
       have f1:wq.cell? ⟨Q,1,none⟩=some (.int .i64 y1):=hQ.cell 1
       have f2:wq.cell? ⟨Q,2,none⟩=some (.int .i64 y2):=hQ.cell 2
       have f3:wq.cell? ⟨Q,3,none⟩=some (.int .i64 y3):=hQ.cell 3
       have f4:wq.cell? ⟨Q,4,none⟩=some (.int .i64 y4):=hQ.cell 4
       have f5:wq.cell? ⟨Q,5,none⟩=some (.int .i64 y5):=hQ.cell 5
       have f6:wq.cell? ⟨Q,6,none⟩=some (.int .i64 y6):=hQ.cell 6
       have f7:wq.cell? ⟨Q,7,none⟩=some (.int .i64 y7):=hQ.cell 7
       have f8:wq.cell? ⟨Q,8,none⟩=some (.int .i64 y8):=hQ.cell 8
       have f9:wq.cell? ⟨Q,9,none⟩=some (.bool y9):=hQ.cell 9
       have f10:wq.cell? ⟨Q,10,none⟩=some (.int .i64 y10):=hQ.cell 10
       have n0:wq.cell? ⟨N,0,none⟩=some (.int .i64 c.node.id):=hNq.cell 0
       cases z1:(y5 == c.node.id) with
       | false =>
        have HO2:=Lib.hid (show out=(s6.allocs.take (t+1)).filter (fun a=>a.node == c.node.id && !Bv a)∧out.length≤t+1 from ⟨by rw [HNX.out,List.filter_append,← hout.out.1,List.filter_cons_of_neg (by show ¬ (y5 == c.node.id && !Bv _)=true;rw [z1];simp),List.filter_nil,List.append_nil],by have:=hout.out.2;omega⟩)
        go_wp2_with (first|go_skip|go_guarded)
        go_roundw
        case rel=>(try rw [← HA.out]);exact ⟨t+1,HT.out,by go_num,out,AO,co,HO2,hownq,hOq,hxz⟩
        case measure=>have:=HT.out;simp [intOf];omega
       | true =>
        cases z2:decide (3≤y10) with
        | true =>
         have HO2:=Lib.hid (show out=(s6.allocs.take (t+1)).filter (fun a=>a.node == c.node.id && !Bv a)∧out.length≤t+1 from ⟨by rw [HNX.out,List.filter_append,← hout.out.1,List.filter_cons_of_neg (by show ¬ (y5 == c.node.id && !Bv _)=true;rw [z1];simp [Bv];simpa using z2),List.filter_nil,List.append_nil],by have:=hout.out.2;omega⟩)
         go_wp2_with (first|go_skip|go_guarded|(go_at_call 74;(with_reducible refine (Bt #[.int .i64 y0,.int .i64 y1,.int .i64 y2,.int .i64 y3,.int .i64 y4,.int .i64 y5,.int .i64 y6,.int .i64 y7,.int .i64 y8,.bool y9,.int .i64 y10] y10 wq rfl rfl).mono ?_);rintro e wv ⟨rfl,hxv⟩;(rw [z2])))
         go_roundw
         case rel=>(try rw [← HA.out]);exact ⟨t+1,HT.out,by go_num,out,AO,co,HO2,Am hownq hxv (fun _ _ e=>e),hOq.e0 hxv,hxz.tr hxv⟩
         case measure=>have:=HT.out;simp [intOf];omega
        | false =>
         have HO2:=Lib.hid (show out ++ [(⟨y0,y1,y2,y3,y4,y5,y6,⟨y7,y8⟩,y9,y10⟩ : Ac)]=(s6.allocs.take (t+1)).filter (fun a=>a.node == c.node.id && !Bv a)∧(out ++ [(⟨y0,y1,y2,y3,y4,y5,y6,⟨y7,y8⟩,y9,y10⟩ : Ac)]).length≤t+1 from ⟨by rw [HNX.out,List.filter_append,← hout.out.1,List.filter_cons_of_pos (by show (y5 == c.node.id && !Bv _)=true;rw [z1];simp [Bv];simpa using z2),List.filter_nil],by rw [List.length_append];have:=hout.out.2;show out.length+1≤_;omega⟩)
         go_upto_region 21 with (first|go_skip|go_guarded|(go_at_call 74;(with_reducible refine (Bt #[.int .i64 y0,.int .i64 y1,.int .i64 y2,.int .i64 y3,.int .i64 y4,.int .i64 y5,.int .i64 y6,.int .i64 y7,.int .i64 y8,.bool y9,.int .i64 y10] y10 wq rfl rfl).mono ?_);rintro e wv ⟨rfl,hxv⟩;(rw [z2])))
         have hQv:=hQ.e0 hxv
         have hOv:=hOq.e0 hxv
         have hownv:=Am hownq hxv (fun _ _ e=>e)
         have hxy:=hxz.tr hxv
         have o2:wv.cell? ⟨wc.heap.size,2,none⟩=some (.slice AO out.length co):=hOv.cell 2
         have hbn:out.length < 67108864:=by have:=hout.out.2;have:=HT.out;omega
         have hzv:wc.heap.size≤wv.heap.size:=by have:=hxy.size;omega
         clear f0 f1 f2 f3 f4 f5 f6 f7 f8 f9 f10 n0 hOq hQ hownq hxz
         go_wp2_with (first|go_skip|go_guarded|((with_reducible refine isW ?_);refine Ae rfl 55 _ rfl Ba Q rfl #[.int .i64 y0,.int .i64 y1,.int .i64 y2,.int .i64 y3,.int .i64 y4,.int .i64 y5,.int .i64 y6,.int .i64 y7,.int .i64 y8,.bool y9,.int .i64 y10] hQv rfl ?_)|((with_reducible refine Jh ?_);refine D7 rfl rfl 25 _ rfl _ _ rfl SRAlloc #[.int .i64 y0,.int .i64 y1,.int .i64 y2,.int .i64 y3,.int .i64 y4,.int .i64 y5,.int .i64 y6,.int .i64 y7,.int .i64 y8,.bool y9,.int .i64 y10] rfl rfl wc.heap.size (.slice AO out.length co) out.length (out.flatMap Ac.cells) rfl rfl hownv rfl hbn hzv ?_;intro A1 c1 wa owna hxa;have hOa:=hOv.ext hxa (own_ne hownv hOv (by decide));have o2a:wa.cell? ⟨wc.heap.size,2,none⟩=some (.slice AO out.length co):=hOa.cell 2;have o2f:wa.frozen? ⟨wc.heap.size,2,none⟩=false:=hOa.frozen 2))
         have hsa:Ext (fun q=>q=wc.heap.size) wa (wa.setCell ⟨wc.heap.size,2,none⟩ (.slice A1 (out.length+1) c1)):=Ext.set1 _ _ _ _
         have hown1:=CG (x:=(⟨y0,y1,y2,y3,y4,y5,y6,⟨y7,y8⟩,y9,y10⟩ : Ac)) owna rfl rfl
         have hbl:=hOa.Bi 2 (.slice A1 (out.length+1) c1)
         have HLL:=Lib.hid (show (out ++ [(⟨y0,y1,y2,y3,y4,y5,y6,⟨y7,y8⟩,y9,y10⟩ : Ac)]).length=out.length+1 by simp)
         have HXA:=Lib.hid (hxy.trans hxa (fun q hq e=>absurd (BM hownv e) (by omega)))
         go_roundw
         case rel=>(try rw [← HA.out]);exact ⟨t+1,HT.out,by go_num,out ++ [(⟨y0,y1,y2,y3,y4,y5,y6,⟨y7,y8⟩,y9,y10⟩ : Ac)],A1,c1,HO2,Am hown1 hsa (fun g hg e=>own_ne hown1 hOa (by decide) (by rw [← (show g=wc.heap.size from e)];exact hg)),by rw [HLL.out];exact hbl,HXA.out.trans hsa (fun q hq e=>absurd (show q=wc.heap.size from e) (by omega))⟩
         case measure=>have:=HT.out;simp [intOf];omega
      have hnl2:¬ ((t:Int) < s6.nA):=by omega
      have HR:=Lib.hid (show out=s6.allocs.filter (fun a=>a.node == c.node.id && !Bv a) by rw [hout.out.1,List.take_of_length_le (by have:=H6A.out;omega)])
      have hRr:=hRc.e0 hx
      go_wp2_with (first|go_skip|go_guarded|((with_reducible refine isW ?_);refine Ae rfl 34 _ rfl STResult wc.heap.size rfl #[.int .i64 0,.int .i64 c.node.epoch,.slice AO out.length co] hOr rfl ?_)|((with_reducible refine isW ?_);refine Af rfl 34 _ _ rfl STResult (C+1) rfl #[.int .i64 0,.int .i64 c.node.epoch,.slice AO out.length co] rfl hRr rfl rfl rfl ?_;intro w9 hR9 hx9))
      have hMz:=hMc.e0 hx
      exact bodyPost_ret (results_cell rfl STResult (g:=C+1) rfl hR9 rfl) rfl ⟨⟨s6,cm,⟨0,c.node.epoch,out⟩,.slice AO out.length co,rfl,hMz.keep hx9 (fun e=>Blk.ne hMz.blk hRr (by decide) e) (Apart.one hRr (by decide)),by rw [HF2.out,HR.out],⟨AO,co,rfl,.inr (Bj (Am hown hx9 (fun g hg e=>by have:=BM hown hg;have:g=C+1:=e;omega)) hbc)⟩,(hst.m0 hx).fresh hx9 (fun q e=>by have:=HC.out;have:q=C+1:=e;omega)⟩⟩
end Go.Proofs.YtccekmeifanipaaGreat
